/- Law 31: the model's do, kinds 7,10. (printed by wip/gen_dscme.py) -/
import Derived.Test.YtfchfjipkggnkaaGreatDoorDscMw
import Derived.Test.YtfchfjipkggnkaaGreatDoorDscCk
import Derived.Deep.QuietTactic
import Derived.BigQuiet
import Derived.IntWalk
import Derived.Deep.RegionHeld3
namespace Go.Proofs.YtfchfjipkggnkaaGreatDoor
open Go.RowKit
attribute [local go_sem ↓] run_eql_opn run_neq_opn Go.wp_at_zero Go.wp_at_succ
attribute [local go_sem ↓] bld_O bld_E bld_N bld_12 bld_13 bld_9 bld_21 bld_11 bld_2

set_option linter.unusedSimpArgs false in
set_option maxRecDepth 100000 in
set_option maxHeartbeats 25600000 in
theorem mdo_7 (kd who tw : Nat) (fd n okd : Int) (omak : ByteArray) (obn onum ooff : Int) (ord owr oap : Bool) (X : Nat) (m : ModD) (w : World) (hX : ModAt w X m) (hk : kd < 256) (hw : who < 256) (ht : tw < 256) (hd : -9223372036854775808 ≤ n ∧ n ≤ 9223372036854775807) (hmk : omak.size ≤ 70368744177664) (hTE : ∀ t ∈ m.tabs, tabE t = 0) (hm : kd % 11 = 7) :
    Calls Tryz.prog 21 #[.pointer (some ⟨X, 0, none⟩), .agg #[.int .u8 kd, .int .u8 who, .int .u8 tw, .int .i64 fd, .int .i64 n, .int .i64 okd, .string omak, .int .i64 obn, .int .i64 onum, .int .i64 ooff, .bool ord, .bool owr, .bool oap]] w (DoPost w X (mdo m ⟨kd, who, tw, fd, n, ⟨okd, omak, obn, onum, ooff, ord, owr, oap⟩⟩)) := by
  have HX : Hid (∀ W, Below w.heap.size w W → ModAt W X m) := fun W h => hX.later h
  have Hxl : Hid (X < w.heap.size) := hX.1.lt
  have HB0 : Hid (Below w.heap.size w ((w.alloc (.cells #[.int .u8 kd, .int .u8 who, .int .u8 tw, .int .i64 fd, .int .i64 n, .int .i64 okd, .string omak, .int .i64 obn, .int .i64 onum, .int .i64 ooff, .bool ord, .bool owr, .bool oap] 49)).alloc (.cells Tryz.zeroCells52 52))) := ((Below.refl _ _).alloc (Nat.le_refl _) _).alloc (by simp) _
  have B0 : Hid (RowIs ((w.alloc (.cells #[.int .u8 kd, .int .u8 who, .int .u8 tw, .int .i64 fd, .int .i64 n, .int .i64 okd, .string omak, .int .i64 obn, .int .i64 onum, .int .i64 ooff, .bool ord, .bool owr, .bool oap] 49)).alloc (.cells Tryz.zeroCells52 52)) w.heap.size 49 [.int .u8 kd, .int .u8 who, .int .u8 tw, .int .i64 fd, .int .i64 n, .int .i64 okd, .string omak, .int .i64 obn, .int .i64 onum, .int .i64 ooff, .bool ord, .bool owr, .bool oap]) := (new_row w 49 [.int .u8 kd, .int .u8 who, .int .u8 tw, .int .i64 fd, .int .i64 n, .int .i64 okd, .string omak, .int .i64 obn, .int .i64 onum, .int .i64 ooff, .bool ord, .bool owr, .bool oap]).later ((Below.refl _ _).alloc (Nat.le_refl _) _)
  have R0 : Hid (ResAt ((w.alloc (.cells #[.int .u8 kd, .int .u8 who, .int .u8 tw, .int .i64 fd, .int .i64 n, .int .i64 okd, .string omak, .int .i64 obn, .int .i64 onum, .int .i64 ooff, .bool ord, .bool owr, .bool oap] 49)).alloc (.cells Tryz.zeroCells52 52)) (w.heap.size + 1) (errD 0)) := by
    have := new_res (w.alloc (.cells #[.int .u8 kd, .int .u8 who, .int .u8 tw, .int .i64 fd, .int .i64 n, .int .i64 okd, .string omak, .int .i64 obn, .int .i64 onum, .int .i64 ooff, .bool ord, .bool owr, .bool oap] 49))
    rw [World.size_alloc] at this
    exact this
  have X0 := Lib.hid (HX.out _ HB0.out)
  obtain ⟨k, hk4⟩ : ∃ k : Nat, who % 4 = k := ⟨_, rfl⟩
  obtain ⟨i, hi4⟩ : ∃ i : Nat, tw % 4 = i := ⟨_, rfl⟩
  have HK : Hid (who % 4 = k ∧ k < 4) := ⟨hk4, by omega⟩
  have HI : Hid (tw % 4 = i ∧ i < 4) := ⟨hi4, by omega⟩
  have htk : (who : Int).tmod 4 = (k : Int) := by rw [Int.tmod_eq_emod_of_nonneg (by omega)]; omega
  have hti : (tw : Int).tmod 4 = (i : Int) := by rw [Int.tmod_eq_emod_of_nonneg (by omega)]; omega
  have k0 : (0 : Int) ≤ (k : Int) := by omega
  have k1 : (k : Int) < 4 := by omega
  have i0 : (0 : Int) ≤ (i : Int) := by omega
  have i1 : (i : Int) < 4 := by omega
  have Hd := Lib.hid hd
  have Hmk := Lib.hid hmk
  have HTE := Lib.hid hTE
  have hkn : (0 : Int) ≤ (kd : Int) := by omega
  have hkx : (kd : Int) ≤ 255 := by omega
  have hwn : (0 : Int) ≤ (who : Int) := by omega
  have hwx : (who : Int) ≤ 255 := by omega
  have htn : (0 : Int) ≤ (tw : Int) := by omega
  have htx : (tw : Int) ≤ 255 := by omega
  have HM := Lib.hid hm
  clear hd hmk hTE hk4 hi4 hX hm
  go_enter Tryz.func21, Tryz.ntmps21
  go_upto_region 1 with fail
  obtain ⟨w1, hw1⟩ : ∃ w1, ((w.alloc (.cells #[.int .u8 kd, .int .u8 who, .int .u8 tw, .int .i64 fd, .int .i64 n, .int .i64 okd, .string omak, .int .i64 obn, .int .i64 onum, .int .i64 ooff, .bool ord, .bool owr, .bool oap] 49)).alloc (.cells Tryz.zeroCells52 52)) = w1 := ⟨_, rfl⟩
  rw [hw1] at HB0 B0 R0 X0 ⊢
  clear hw1
  have b1 := B0.out.cell (i := 1) rfl
  have b2 := B0.out.cell (i := 2) rfl
  have hi64k : IntKind.i64.wrap (k : Int) = (k : Int) := IntWalk.i64_in _ (by omega)
  have hi64i : IntKind.i64.wrap (i : Int) = (i : Int) := IntWalk.i64_in _ (by omega)
  go_quiet (fail)
  clear b1 b2 htk hti hi64k hi64i
  have hbd : Below w1.heap.size w1 (w1.drewN nq) := ⟨rfl, rfl, rfl, Nat.le_refl _, fun _ _ => rfl⟩
  have HG1 : Hid (Kept (fun k => k = X) w (w1.drewN nq)) := Kept.of_below (HB0.out.trans (hbd.mono HB0.out.size)) _
  have B1 := Lib.hid (B0.out.later hbd)
  have R1 := Lib.hid (R0.out.later hbd)
  have X1 := Lib.hid (X0.out.later hbd)
  clear hbd HB0 B0 R0 X0
  generalize w1.drewN nq = w2 at *
  have hm := HM.out
  have hmi : (kd : Int) % 11 = 7 := by omega
  have HP0 : Hid (mdo m ⟨kd, who, tw, fd, n, ⟨okd, omak, obn, onum, ooff, ord, owr, oap⟩⟩ = mOne m k (closeF fd)) := by
    show _ = _
    rw [mD7 (o := ⟨kd, who, tw, fd, n, ⟨okd, omak, obn, onum, ooff, ord, owr, oap⟩⟩) hm]
    dsimp only
    rw [HK.out.1]
  clear HM hm
  have b0 := B1.out.cell (i := 0) rfl
  have b3 := B1.out.cell (i := 3) rfl
  have b4 := B1.out.cell (i := 4) rfl
  have HP1 := Lib.hid (HP0.out.trans (get_one m k fd (closeF fd) (fun t h => if_pos h)))
  clear HP0
  have HP0 := HP1
  clear HP1
  obtain ⟨q, hq⟩ : ∃ q, mGetE m k fd = q := ⟨_, rfl⟩
  have hc := mGet_any X1.out HK.out.2 fd
  rw [hq] at hc HP0
  have HC := Lib.hid hc
  have Hq := Lib.hid hq
  clear hc hq
  go_wp2_with fail
  refine HC.out.mono ?_
  rintro r w3 ⟨rfl, rfl⟩
  clear HC
  by_cases h0 : q = 0
  · subst h0
    obtain ⟨hth, hbd⟩ := mGet_ok Hq.out
    obtain ⟨f0, f1, hz⟩ := badD_no hbd
    obtain ⟨n0, rfl⟩ := Int.eq_ofNat_of_zero_le (show 0 ≤ fd by omega)
    have hn16 : n0 < 16 := by omega
    have Hn := Lib.hid hn16
    obtain ⟨x, hx⟩ := ent_some (X1.out.2.tl k) hn16
    have he : entD (mTab m k) (n0 : Int) = x := by unfold entD; rw [List.getD_eq_getElem?_getD, show ((n0 : Nat) : Int).toNat = n0 from rfl, hx]; rfl
    rw [he] at hz
    obtain ⟨ekd, emak, ebn, enum, eoff, erd, ewr, eap⟩ := x
    have Hx := Lib.hid hx
    have j0 : (0 : Int) ≤ (n0 : Int) := by omega
    have j1 : ((n0 : Nat) : Int) < 16 := by omega
    have HP : Hid (mdo m ⟨kd, who, tw, (n0 : Int), n, ⟨okd, omak, obn, onum, ooff, ord, owr, oap⟩⟩ = (⟨m.tabs.set k ((mTab m k).set n0 ⟨0, ⟨#[]⟩, 0, 0, 0, false, false, false⟩), m.there⟩, ⟨zeroTab, ⟨ekd, emak, ebn, enum, eoff, erd, ewr, eap⟩, 0, 0⟩, true)) := by
      refine HP0.out.trans ((if_neg (by simp)).trans ?_)
      unfold closeF
      rw [if_neg (by rw [hbd]; decide), he]
      dsimp only
      rw [upd_there X1.out.2 HK.out.2 hth]
      rfl
    clear HP0 hz he hx hbd hth f0 f1 hn16
    go_upto_region 60 with fail
    clear b0 b3 b4
    have hbd : Below w2.heap.size w2 w2.drew := (Below.refl _ _).drew
    have B2 := Lib.hid (B1.out.later hbd)
    have R2 := Lib.hid (R1.out.later hbd)
    have X2 := Lib.hid (X1.out.later hbd)
    have HG2 : Hid (Kept (fun k => k = X) w w2.drew) := HG1.out.trans (Kept.of_below hbd (fun _ => False)) (fun _ _ h => h.elim)
    clear hbd B1 R1 X1 HG1
    refine wp_region_held_drew (S := (fun W => RowIs W w.heap.size 49 [.int .u8 kd, .int .u8 who, .int .u8 tw, .int .i64 (n0 : Int), .int .i64 n, .int .i64 okd, .string omak, .int .i64 obn, .int .i64 onum, .int .i64 ooff, .bool ord, .bool owr, .bool oap] ∧ ModAt W X m)) (by kernel_rfl) (⟨B2.out, X2.out⟩) (fun hHeld0 => ?_)
    obtain ⟨wv, hwn⟩ : ∃ x, w2.drew = x := ⟨_, rfl⟩
    rw [hwn] at B2 R2 X2 HG2 hHeld0 ⊢
    clear hwn
    refine wpAnyH_take (i := 0) (v := ?_) rfl (by kernel_rfl) (by kernel_rfl) (by kernel_rfl) (fun _ _ _ h => h) (Or.inl ⟨by rfl, ?_⟩) (by assumption) ?_
    rotate_left
    · (intro wx hSw; (try dsimp only at hSw); go_simp <;> with_reducible rfl)
    try simp only [Act.put, List.setIfInBounds_toArray, List.set_cons_zero, List.set_cons_succ, List.getElem_toArray, List.getElem_cons_zero, List.getElem_cons_succ]
    refine wpAnyH_take (i := 1) (v := ?_) rfl (by kernel_rfl) (by kernel_rfl) (by kernel_rfl) (fun _ _ _ h => h) (Or.inl ⟨by rfl, ?_⟩) (by assumption) ?_
    rotate_left
    · (intro wx hSw; (try dsimp only at hSw); go_simp <;> with_reducible rfl)
    try simp only [Act.put, List.setIfInBounds_toArray, List.set_cons_zero, List.set_cons_succ, List.getElem_toArray, List.getElem_cons_zero, List.getElem_cons_succ]
    refine wpAnyH_take (i := 2) (v := ?_) rfl (by kernel_rfl) (by kernel_rfl) (by kernel_rfl) (fun _ _ _ h => h) (Or.inl ⟨by rfl, ?_⟩) (by assumption) ?_
    rotate_left
    · (intro wx hSw; (try dsimp only at hSw); go_simp <;> with_reducible rfl)
    try simp only [Act.put, List.setIfInBounds_toArray, List.set_cons_zero, List.set_cons_succ, List.getElem_toArray, List.getElem_cons_zero, List.getElem_cons_succ]
    refine wpAnyH_take (i := 3) (v := ?_) rfl (by kernel_rfl) (by kernel_rfl) (by kernel_rfl) (fun _ _ _ h => h) (Or.inl ⟨by rfl, ?_⟩) (by assumption) ?_
    rotate_left
    · (intro wx hSw; (try dsimp only at hSw); have c3 := hSw.1.cell (i := 3) rfl; go_simp <;> with_reducible rfl)
    try simp only [Act.put, List.setIfInBounds_toArray, List.set_cons_zero, List.set_cons_succ, List.getElem_toArray, List.getElem_cons_zero, List.getElem_cons_succ]
    refine wpAnyH_take (i := 4) (v := ?_) rfl (by kernel_rfl) (by kernel_rfl) (by kernel_rfl) (fun _ _ _ h => h) (Or.inl ⟨by rfl, ?_⟩) (by assumption) ?_
    rotate_left
    · (intro wx hSw; (try dsimp only at hSw); go_simp <;> with_reducible rfl)
    try simp only [Act.put, List.setIfInBounds_toArray, List.set_cons_zero, List.set_cons_succ, List.getElem_toArray, List.getElem_cons_zero, List.getElem_cons_succ]
    refine wpAnyH_take (i := 5) (v := ?_) rfl (by kernel_rfl) (by kernel_rfl) (by kernel_rfl) (fun _ _ _ h => h) (Or.inl ⟨by rfl, ?_⟩) (by assumption) ?_
    rotate_left
    · (intro wx hSw; (try dsimp only at hSw); go_simp <;> with_reducible rfl)
    try simp only [Act.put, List.setIfInBounds_toArray, List.set_cons_zero, List.set_cons_succ, List.getElem_toArray, List.getElem_cons_zero, List.getElem_cons_succ]
    refine wpAnyH_take (i := 6) (v := ?_) rfl (by kernel_rfl) (by kernel_rfl) (by kernel_rfl) (fun _ _ _ h => h) (Or.inl ⟨by rfl, ?_⟩) (by assumption) ?_
    rotate_left
    · (intro wx hSw; (try dsimp only at hSw); go_simp <;> with_reducible rfl)
    try simp only [Act.put, List.setIfInBounds_toArray, List.set_cons_zero, List.set_cons_succ, List.getElem_toArray, List.getElem_cons_zero, List.getElem_cons_succ]
    refine wpAnyH_take (i := 7) (v := ?_) rfl (by kernel_rfl) (by kernel_rfl) (by kernel_rfl) (fun _ _ _ h => h) (Or.inl ⟨by rfl, ?_⟩) (by assumption) ?_
    rotate_left
    · (intro wx hSw; (try dsimp only at hSw); go_simp <;> with_reducible rfl)
    try simp only [Act.put, List.setIfInBounds_toArray, List.set_cons_zero, List.set_cons_succ, List.getElem_toArray, List.getElem_cons_zero, List.getElem_cons_succ]
    refine wpAnyH_take (i := 8) (v := ?_) rfl (by kernel_rfl) (by kernel_rfl) (by kernel_rfl) (fun _ _ _ h => h) (Or.inl ⟨by rfl, ?_⟩) (by assumption) ?_
    rotate_left
    · (intro wx hSw; (try dsimp only at hSw); have z0 : wx.cell? ⟨X, k * 128 + n0 * 8, none⟩ = some (.int .i64 ekd) := hSw.2.ent HK.out.2 Hx.out (j := 0) rfl; have z1 : wx.cell? ⟨X, k * 128 + n0 * 8 + 1, none⟩ = some (.string emak) := hSw.2.ent HK.out.2 Hx.out (j := 1) rfl; have z2 : wx.cell? ⟨X, k * 128 + n0 * 8 + 2, none⟩ = some (.int .i64 ebn) := hSw.2.ent HK.out.2 Hx.out (j := 2) rfl; have z3 : wx.cell? ⟨X, k * 128 + n0 * 8 + 3, none⟩ = some (.int .i64 enum) := hSw.2.ent HK.out.2 Hx.out (j := 3) rfl; have z4 : wx.cell? ⟨X, k * 128 + n0 * 8 + 4, none⟩ = some (.int .i64 eoff) := hSw.2.ent HK.out.2 Hx.out (j := 4) rfl; have z5 : wx.cell? ⟨X, k * 128 + n0 * 8 + 5, none⟩ = some (.bool erd) := hSw.2.ent HK.out.2 Hx.out (j := 5) rfl; have z6 : wx.cell? ⟨X, k * 128 + n0 * 8 + 6, none⟩ = some (.bool ewr) := hSw.2.ent HK.out.2 Hx.out (j := 6) rfl; have z7 : wx.cell? ⟨X, k * 128 + n0 * 8 + 7, none⟩ = some (.bool eap) := hSw.2.ent HK.out.2 Hx.out (j := 7) rfl; go_simp <;> with_reducible rfl)
    try simp only [Act.put, List.setIfInBounds_toArray, List.set_cons_zero, List.set_cons_succ, List.getElem_toArray, List.getElem_cons_zero, List.getElem_cons_succ]
    refine wpAnyH_ready (rs := [9]) (by kernel_rfl) (by simp) ?_
    refine AllReadyH.cons rfl (fun K hK => ?_) AllReadyH.nil
    have hb : Below wv.heap.size wv (wv.alloc (.cells #[.int .i64 0, .string ⟨#[]⟩, .int .i64 0, .int .i64 0, .int .i64 0, .bool false, .bool false, .bool false] 34)) := (Below.refl _ _).alloc (Nat.le_refl _) _
    have B3 := Lib.hid (B2.out.later hb)
    have R3 := Lib.hid (R2.out.later hb)
    have X3 := Lib.hid (X2.out.later hb)
    have HG3 : Hid (Kept (fun k => k = X) w (wv.alloc (.cells #[.int .i64 0, .string ⟨#[]⟩, .int .i64 0, .int .i64 0, .int .i64 0, .bool false, .bool false, .bool false] 34))) := HG2.out.trans (Kept.of_below hb (fun _ => False)) (fun _ _ h => h.elim)
    have Y3 : Hid (OpnAt (wv.alloc (.cells #[.int .i64 0, .string ⟨#[]⟩, .int .i64 0, .int .i64 0, .int .i64 0, .bool false, .bool false, .bool false] 34)) wv.heap.size ⟨0, ⟨#[]⟩, 0, 0, 0, false, false, false⟩) := World.alloc_heap_new wv _
    have HY : Hid (w.heap.size + 1 < wv.heap.size ∧ X < wv.heap.size) := ⟨R2.out.1.lt, X2.out.1.lt⟩
    clear hb
    go_simp
    refine hK.out _ _ (⟨B3.out, X3.out⟩) (fun hHeld1 => ?_)
    clear hK K hHeld0
    try simp only [Act.put, List.setIfInBounds_toArray, List.set_cons_zero, List.set_cons_succ, List.getElem_toArray, List.getElem_cons_zero, List.getElem_cons_succ]
    refine wpAnyH_ready (rs := [10]) (by kernel_rfl) (by simp) ?_
    refine AllReadyH.cons rfl (fun K hK => ?_) AllReadyH.nil
    obtain ⟨Y, hY⟩ : ∃ Y, wv.heap.size = Y := ⟨_, rfl⟩
    rw [hY] at Y3 HY ⊢
    obtain ⟨w4, hwn⟩ : ∃ x, (wv.alloc (.cells #[.int .i64 0, .string ⟨#[]⟩, .int .i64 0, .int .i64 0, .int .i64 0, .bool false, .bool false, .bool false] 34)) = x := ⟨_, rfl⟩
    rw [hwn] at B3 R3 X3 HG3 Y3 hHeld1 ⊢
    clear hwn
    clear hY
    obtain ⟨d0, d1, d2, d3, d4, d5, d6, d7⟩ := Y3.out.cells
    have q0 := Y3.out.free 0
    have q1 := Y3.out.free 1
    have q2 := Y3.out.free 2
    have q3 := Y3.out.free 3
    have q4 := Y3.out.free 4
    have q5 := Y3.out.free 5
    have q6 := Y3.out.free 6
    have q7 := Y3.out.free 7
    have hg : w4.grownBy ((((((((w4.setCell ⟨Y, 0, none⟩ (.int .i64 ekd)).setCell ⟨Y, 1, none⟩ (.string emak)).setCell ⟨Y, 2, none⟩ (.int .i64 ebn)).setCell ⟨Y, 3, none⟩ (.int .i64 enum)).setCell ⟨Y, 4, none⟩ (.int .i64 eoff)).setCell ⟨Y, 5, none⟩ (.bool erd)).setCell ⟨Y, 6, none⟩ (.bool ewr)).setCell ⟨Y, 7, none⟩ (.bool eap)) (some Y) := grown_set8 _ _ _ _ _ _ _ _ _ _ _ _ _ _ _ _ _ _
    have B4 := Lib.hid (B3.out.kept (hg.block _ B3.out.lt (by have := HY.out.1; simp; omega)))
    have R4 := Lib.hid (R3.out.kept (hg.block _ R3.out.1.lt (by have := HY.out.1; simp; omega)))
    have X4 := Lib.hid (X3.out.kept (hg.block _ X3.out.1.lt (by have := HY.out.2; simp; omega)))
    have HG4 : Hid (Kept (fun k => k = X) w ((((((((w4.setCell ⟨Y, 0, none⟩ (.int .i64 ekd)).setCell ⟨Y, 1, none⟩ (.string emak)).setCell ⟨Y, 2, none⟩ (.int .i64 ebn)).setCell ⟨Y, 3, none⟩ (.int .i64 enum)).setCell ⟨Y, 4, none⟩ (.int .i64 eoff)).setCell ⟨Y, 5, none⟩ (.bool erd)).setCell ⟨Y, 6, none⟩ (.bool ewr)).setCell ⟨Y, 7, none⟩ (.bool eap))) := HG3.out.trans (Kept.of_grown hg (fun k => k = Y) (fun k hk => (Option.some.inj hk).symm)) (fun i hi e => by have := HY.out.1; omega)
    have Y4 : Hid (OpnAt ((((((((w4.setCell ⟨Y, 0, none⟩ (.int .i64 ekd)).setCell ⟨Y, 1, none⟩ (.string emak)).setCell ⟨Y, 2, none⟩ (.int .i64 ebn)).setCell ⟨Y, 3, none⟩ (.int .i64 enum)).setCell ⟨Y, 4, none⟩ (.int .i64 eoff)).setCell ⟨Y, 5, none⟩ (.bool erd)).setCell ⟨Y, 6, none⟩ (.bool ewr)).setCell ⟨Y, 7, none⟩ (.bool eap)) Y ⟨ekd, emak, ebn, enum, eoff, erd, ewr, eap⟩) := opn_stored Y3.out ⟨ekd, emak, ebn, enum, eoff, erd, ewr, eap⟩
    clear hg
    go_simp
    refine hK.out _ _ (⟨B4.out, X4.out⟩) (fun hHeld2 => ?_)
    clear hK K hHeld1
    try simp only [Act.put, List.setIfInBounds_toArray, List.set_cons_zero, List.set_cons_succ, List.getElem_toArray, List.getElem_cons_zero, List.getElem_cons_succ]
    refine wpAnyH_done (by kernel_rfl) ?_ _
    clear d0 d1 d2 d3 d4 d5 d6 d7 q0 q1 q2 q3 q4 q5 q6 q7 B2 R2 X2 HG2 B3 R3 X3 HG3 Y3
    go_upto_region 61 with fail
    obtain ⟨w5, hwn⟩ : ∃ x, ((((((((w4.setCell ⟨Y, 0, none⟩ (.int .i64 ekd)).setCell ⟨Y, 1, none⟩ (.string emak)).setCell ⟨Y, 2, none⟩ (.int .i64 ebn)).setCell ⟨Y, 3, none⟩ (.int .i64 enum)).setCell ⟨Y, 4, none⟩ (.int .i64 eoff)).setCell ⟨Y, 5, none⟩ (.bool erd)).setCell ⟨Y, 6, none⟩ (.bool ewr)).setCell ⟨Y, 7, none⟩ (.bool eap)) = x := ⟨_, rfl⟩
    rw [hwn] at B4 R4 X4 HG4 Y4 ⊢
    clear hwn
    have b0 := B4.out.cell (i := 0) rfl
    go_upto_region 63 with fail
    clear b0
    have Y5 : Hid (OpnAt w5.drew Y ⟨ekd, emak, ebn, enum, eoff, erd, ewr, eap⟩) := Y4.out
    have hbd : Below w5.heap.size w5 w5.drew := (Below.refl _ _).drew
    have B5 := Lib.hid (B4.out.later hbd)
    have R5 := Lib.hid (R4.out.later hbd)
    have X5 := Lib.hid (X4.out.later hbd)
    have HG5 : Hid (Kept (fun k => k = X) w w5.drew) := HG4.out.trans (Kept.of_below hbd (fun _ => False)) (fun _ _ h => h.elim)
    clear hbd B4 R4 X4 HG4
    refine wp_region_held_drew (S := (fun W => RowIs W w.heap.size 49 [.int .u8 kd, .int .u8 who, .int .u8 tw, .int .i64 (n0 : Int), .int .i64 n, .int .i64 okd, .string omak, .int .i64 obn, .int .i64 onum, .int .i64 ooff, .bool ord, .bool owr, .bool oap])) (by kernel_rfl) (B5.out) (fun hHeld0 => ?_)
    obtain ⟨wv, hwn⟩ : ∃ x, w5.drew = x := ⟨_, rfl⟩
    rw [hwn] at B5 R5 X5 HG5 Y5 hHeld0 ⊢
    clear hwn
    refine wpAnyH_take (i := 0) (v := ?_) rfl (by kernel_rfl) (by kernel_rfl) (by kernel_rfl) (fun _ _ _ h => h) (Or.inl ⟨by rfl, ?_⟩) (by assumption) ?_
    rotate_left
    · (intro wx hSw; (try dsimp only at hSw); go_simp <;> with_reducible rfl)
    try simp only [Act.put, List.setIfInBounds_toArray, List.set_cons_zero, List.set_cons_succ, List.getElem_toArray, List.getElem_cons_zero, List.getElem_cons_succ]
    refine wpAnyH_take (i := 1) (v := ?_) rfl (by kernel_rfl) (by kernel_rfl) (by kernel_rfl) (fun _ _ _ h => h) (Or.inl ⟨by rfl, ?_⟩) (by assumption) ?_
    rotate_left
    · (intro wx hSw; (try dsimp only at hSw); go_simp <;> with_reducible rfl)
    try simp only [Act.put, List.setIfInBounds_toArray, List.set_cons_zero, List.set_cons_succ, List.getElem_toArray, List.getElem_cons_zero, List.getElem_cons_succ]
    refine wpAnyH_take (i := 2) (v := ?_) rfl (by kernel_rfl) (by kernel_rfl) (by kernel_rfl) (fun _ _ _ h => h) (Or.inl ⟨by rfl, ?_⟩) (by assumption) ?_
    rotate_left
    · (intro wx hSw; (try dsimp only at hSw); go_simp <;> with_reducible rfl)
    try simp only [Act.put, List.setIfInBounds_toArray, List.set_cons_zero, List.set_cons_succ, List.getElem_toArray, List.getElem_cons_zero, List.getElem_cons_succ]
    refine wpAnyH_take (i := 3) (v := ?_) rfl (by kernel_rfl) (by kernel_rfl) (by kernel_rfl) (fun _ _ _ h => h) (Or.inl ⟨by rfl, ?_⟩) (by assumption) ?_
    rotate_left
    · (intro wx hSw; (try dsimp only at hSw); have c3 := hSw.cell (i := 3) rfl; go_simp <;> with_reducible rfl)
    try simp only [Act.put, List.setIfInBounds_toArray, List.set_cons_zero, List.set_cons_succ, List.getElem_toArray, List.getElem_cons_zero, List.getElem_cons_succ]
    refine wpAnyH_take (i := 4) (v := ?_) rfl (by kernel_rfl) (by kernel_rfl) (by kernel_rfl) (fun _ _ _ h => h) (Or.inl ⟨by rfl, ?_⟩) (by assumption) ?_
    rotate_left
    · (intro wx hSw; (try dsimp only at hSw); go_simp <;> with_reducible rfl)
    try simp only [Act.put, List.setIfInBounds_toArray, List.set_cons_zero, List.set_cons_succ, List.getElem_toArray, List.getElem_cons_zero, List.getElem_cons_succ]
    refine wpAnyH_take (i := 5) (v := ?_) rfl (by kernel_rfl) (by kernel_rfl) (by kernel_rfl) (fun _ _ _ h => h) (Or.inl ⟨by rfl, ?_⟩) (by assumption) ?_
    rotate_left
    · (intro wx hSw; (try dsimp only at hSw); go_simp <;> with_reducible rfl)
    try simp only [Act.put, List.setIfInBounds_toArray, List.set_cons_zero, List.set_cons_succ, List.getElem_toArray, List.getElem_cons_zero, List.getElem_cons_succ]
    refine wpAnyH_take (i := 6) (v := ?_) rfl (by kernel_rfl) (by kernel_rfl) (by kernel_rfl) (fun _ _ _ h => h) (Or.inl ⟨by rfl, ?_⟩) (by assumption) ?_
    rotate_left
    · (intro wx hSw; (try dsimp only at hSw); go_simp <;> with_reducible rfl)
    try simp only [Act.put, List.setIfInBounds_toArray, List.set_cons_zero, List.set_cons_succ, List.getElem_toArray, List.getElem_cons_zero, List.getElem_cons_succ]
    refine wpAnyH_take (i := 7) (v := ?_) rfl (by kernel_rfl) (by kernel_rfl) (by kernel_rfl) (fun _ _ _ h => h) (Or.inl ⟨by rfl, ?_⟩) (by assumption) ?_
    rotate_left
    · (intro wx hSw; (try dsimp only at hSw); go_simp <;> with_reducible rfl)
    try simp only [Act.put, List.setIfInBounds_toArray, List.set_cons_zero, List.set_cons_succ, List.getElem_toArray, List.getElem_cons_zero, List.getElem_cons_succ]
    refine wpAnyH_take (i := 8) (v := ?_) rfl (by kernel_rfl) (by kernel_rfl) (by kernel_rfl) (fun _ _ _ h => h) (Or.inl ⟨by rfl, ?_⟩) (by assumption) ?_
    rotate_left
    · (intro wx hSw; (try dsimp only at hSw); go_simp <;> with_reducible rfl)
    try simp only [Act.put, List.setIfInBounds_toArray, List.set_cons_zero, List.set_cons_succ, List.getElem_toArray, List.getElem_cons_zero, List.getElem_cons_succ]
    refine wpAnyH_ready (rs := [9]) (by kernel_rfl) (by simp) ?_
    refine AllReadyH.cons rfl (fun K hK => ?_) AllReadyH.nil
    have y0 : wv.cell? ⟨X, k * 128 + n0 * 8, none⟩ = some (.int .i64 ekd) := X5.out.ent HK.out.2 Hx.out (j := 0) rfl
    have y1 : wv.cell? ⟨X, k * 128 + n0 * 8 + 1, none⟩ = some (.string emak) := X5.out.ent HK.out.2 Hx.out (j := 1) rfl
    have y2 : wv.cell? ⟨X, k * 128 + n0 * 8 + 2, none⟩ = some (.int .i64 ebn) := X5.out.ent HK.out.2 Hx.out (j := 2) rfl
    have y3 : wv.cell? ⟨X, k * 128 + n0 * 8 + 3, none⟩ = some (.int .i64 enum) := X5.out.ent HK.out.2 Hx.out (j := 3) rfl
    have y4 : wv.cell? ⟨X, k * 128 + n0 * 8 + 4, none⟩ = some (.int .i64 eoff) := X5.out.ent HK.out.2 Hx.out (j := 4) rfl
    have y5 : wv.cell? ⟨X, k * 128 + n0 * 8 + 5, none⟩ = some (.bool erd) := X5.out.ent HK.out.2 Hx.out (j := 5) rfl
    have y6 : wv.cell? ⟨X, k * 128 + n0 * 8 + 6, none⟩ = some (.bool ewr) := X5.out.ent HK.out.2 Hx.out (j := 6) rfl
    have y7 : wv.cell? ⟨X, k * 128 + n0 * 8 + 7, none⟩ = some (.bool eap) := X5.out.ent HK.out.2 Hx.out (j := 7) rfl
    have yf0 := X5.out.free (k * 128 + n0 * 8)
    have yf1 := X5.out.free (k * 128 + n0 * 8 + 1)
    have yf2 := X5.out.free (k * 128 + n0 * 8 + 2)
    have yf3 := X5.out.free (k * 128 + n0 * 8 + 3)
    have yf4 := X5.out.free (k * 128 + n0 * 8 + 4)
    have yf5 := X5.out.free (k * 128 + n0 * 8 + 5)
    have yf6 := X5.out.free (k * 128 + n0 * 8 + 6)
    have yf7 := X5.out.free (k * 128 + n0 * 8 + 7)
    have hgy : wv.grownBy ((((((((wv.setCell ⟨X, k * 128 + n0 * 8, none⟩ (.int .i64 0)).setCell ⟨X, k * 128 + n0 * 8 + 1, none⟩ (.string ⟨#[]⟩)).setCell ⟨X, k * 128 + n0 * 8 + 2, none⟩ (.int .i64 0)).setCell ⟨X, k * 128 + n0 * 8 + 3, none⟩ (.int .i64 0)).setCell ⟨X, k * 128 + n0 * 8 + 4, none⟩ (.int .i64 0)).setCell ⟨X, k * 128 + n0 * 8 + 5, none⟩ (.bool false)).setCell ⟨X, k * 128 + n0 * 8 + 6, none⟩ (.bool false)).setCell ⟨X, k * 128 + n0 * 8 + 7, none⟩ (.bool false)) (some X) := grown_set8 _ _ _ _ _ _ _ _ _ _ _ _ _ _ _ _ _ _
    have Y6 : Hid (OpnAt ((((((((wv.setCell ⟨X, k * 128 + n0 * 8, none⟩ (.int .i64 0)).setCell ⟨X, k * 128 + n0 * 8 + 1, none⟩ (.string ⟨#[]⟩)).setCell ⟨X, k * 128 + n0 * 8 + 2, none⟩ (.int .i64 0)).setCell ⟨X, k * 128 + n0 * 8 + 3, none⟩ (.int .i64 0)).setCell ⟨X, k * 128 + n0 * 8 + 4, none⟩ (.int .i64 0)).setCell ⟨X, k * 128 + n0 * 8 + 5, none⟩ (.bool false)).setCell ⟨X, k * 128 + n0 * 8 + 6, none⟩ (.bool false)).setCell ⟨X, k * 128 + n0 * 8 + 7, none⟩ (.bool false)) Y ⟨ekd, emak, ebn, enum, eoff, erd, ewr, eap⟩) := (hgy.block _ (lt_of_heap Y5.out) (by have := HY.out.2; simp; omega)).trans Y5.out
    clear hgy
    have hg : wv.grownBy ((((((((wv.setCell ⟨X, k * 128 + n0 * 8, none⟩ (.int .i64 0)).setCell ⟨X, k * 128 + n0 * 8 + 1, none⟩ (.string ⟨#[]⟩)).setCell ⟨X, k * 128 + n0 * 8 + 2, none⟩ (.int .i64 0)).setCell ⟨X, k * 128 + n0 * 8 + 3, none⟩ (.int .i64 0)).setCell ⟨X, k * 128 + n0 * 8 + 4, none⟩ (.int .i64 0)).setCell ⟨X, k * 128 + n0 * 8 + 5, none⟩ (.bool false)).setCell ⟨X, k * 128 + n0 * 8 + 6, none⟩ (.bool false)).setCell ⟨X, k * 128 + n0 * 8 + 7, none⟩ (.bool false)) (some X) := grown_set8 _ _ _ _ _ _ _ _ _ _ _ _ _ _ _ _ _ _
    have B6 := Lib.hid (B5.out.kept (hg.block _ B5.out.lt (by have := Hxl.out; simp; omega)))
    have R6 := Lib.hid (R5.out.kept (hg.block _ R5.out.1.lt (by have := Hxl.out; simp; omega)))
    have X6 : Hid (ModAt ((((((((wv.setCell ⟨X, k * 128 + n0 * 8, none⟩ (.int .i64 0)).setCell ⟨X, k * 128 + n0 * 8 + 1, none⟩ (.string ⟨#[]⟩)).setCell ⟨X, k * 128 + n0 * 8 + 2, none⟩ (.int .i64 0)).setCell ⟨X, k * 128 + n0 * 8 + 3, none⟩ (.int .i64 0)).setCell ⟨X, k * 128 + n0 * 8 + 4, none⟩ (.int .i64 0)).setCell ⟨X, k * 128 + n0 * 8 + 5, none⟩ (.bool false)).setCell ⟨X, k * 128 + n0 * 8 + 6, none⟩ (.bool false)).setCell ⟨X, k * 128 + n0 * 8 + 7, none⟩ (.bool false)) X ⟨m.tabs.set k ((mTab m k).set n0 ⟨0, ⟨#[]⟩, 0, 0, 0, false, false, false⟩), m.there⟩) := X5.out.setEnt HK.out.2 Hn.out ⟨0, ⟨#[]⟩, 0, 0, 0, false, false, false⟩
    have HG6 : Hid (Kept (fun k => k = X) w ((((((((wv.setCell ⟨X, k * 128 + n0 * 8, none⟩ (.int .i64 0)).setCell ⟨X, k * 128 + n0 * 8 + 1, none⟩ (.string ⟨#[]⟩)).setCell ⟨X, k * 128 + n0 * 8 + 2, none⟩ (.int .i64 0)).setCell ⟨X, k * 128 + n0 * 8 + 3, none⟩ (.int .i64 0)).setCell ⟨X, k * 128 + n0 * 8 + 4, none⟩ (.int .i64 0)).setCell ⟨X, k * 128 + n0 * 8 + 5, none⟩ (.bool false)).setCell ⟨X, k * 128 + n0 * 8 + 6, none⟩ (.bool false)).setCell ⟨X, k * 128 + n0 * 8 + 7, none⟩ (.bool false))) := HG5.out.trans (Kept.of_grown hg (fun k => k = X) (fun k hk => (Option.some.inj hk).symm)) (fun _ _ h => h)
    clear hg
    go_simp
    refine hK.out _ _ (B6.out) (fun hHeld1 => ?_)
    clear hK K hHeld0
    try simp only [Act.put, List.setIfInBounds_toArray, List.set_cons_zero, List.set_cons_succ, List.getElem_toArray, List.getElem_cons_zero, List.getElem_cons_succ]
    refine wpAnyH_done (by kernel_rfl) ?_ _
    clear y0 yf0 y1 yf1 y2 yf2 y3 yf3 y4 yf4 y5 yf5 y6 yf6 y7 yf7 B5 R5 X5 HG5 Y5
    go_upto_region 64 with fail
    obtain ⟨w6, hwn⟩ : ∃ x, ((((((((wv.setCell ⟨X, k * 128 + n0 * 8, none⟩ (.int .i64 0)).setCell ⟨X, k * 128 + n0 * 8 + 1, none⟩ (.string ⟨#[]⟩)).setCell ⟨X, k * 128 + n0 * 8 + 2, none⟩ (.int .i64 0)).setCell ⟨X, k * 128 + n0 * 8 + 3, none⟩ (.int .i64 0)).setCell ⟨X, k * 128 + n0 * 8 + 4, none⟩ (.int .i64 0)).setCell ⟨X, k * 128 + n0 * 8 + 5, none⟩ (.bool false)).setCell ⟨X, k * 128 + n0 * 8 + 6, none⟩ (.bool false)).setCell ⟨X, k * 128 + n0 * 8 + 7, none⟩ (.bool false)) = x := ⟨_, rfl⟩
    rw [hwn] at B6 R6 X6 HG6 Y6 ⊢
    clear hwn
    obtain ⟨d0, d1, d2, d3, d4, d5, d6, d7⟩ := Y6.out.cells
    have hst := R6.out.store (r' := ⟨zeroTab, ⟨ekd, emak, ebn, enum, eoff, erd, ewr, eap⟩, 0, 0⟩) rfl
    have hsz : (resC ⟨zeroTab, ⟨ekd, emak, ebn, enum, eoff, erd, ewr, eap⟩, 0, 0⟩).toArray.size = 138 := by rw [List.size_toArray, resC_len rfl]
    have hg : w6.grownBy (w6.setRow (w.heap.size + 1) (resC ⟨zeroTab, ⟨ekd, emak, ebn, enum, eoff, erd, ewr, eap⟩, 0, 0⟩).toArray) (some (w.heap.size + 1)) := grown_setRow _ _ _
    have HF : Hid (ResAt (w6.setRow (w.heap.size + 1) (resC ⟨zeroTab, ⟨ekd, emak, ebn, enum, eoff, erd, ewr, eap⟩, 0, 0⟩).toArray) (w.heap.size + 1) ⟨zeroTab, ⟨ekd, emak, ebn, enum, eoff, erd, ewr, eap⟩, 0, 0⟩) := R6.out.setRow rfl
    have XF : Hid (ModAt (w6.setRow (w.heap.size + 1) (resC ⟨zeroTab, ⟨ekd, emak, ebn, enum, eoff, erd, ewr, eap⟩, 0, 0⟩).toArray) X ⟨m.tabs.set k ((mTab m k).set n0 ⟨0, ⟨#[]⟩, 0, 0, 0, false, false, false⟩), m.there⟩) := X6.out.kept (hg.block _ X6.out.1.lt (by have := Hxl.out; simp; omega))
    have GF : Hid (Kept (fun k => k = X) w (w6.setRow (w.heap.size + 1) (resC ⟨zeroTab, ⟨ekd, emak, ebn, enum, eoff, erd, ewr, eap⟩, 0, 0⟩).toArray)) := HG6.out.trans (Kept.of_grown hg (fun k => k = (w.heap.size + 1)) (fun k hk => (Option.some.inj hk).symm)) (fun i hi e => by omega)
    clear hg
    go_wp2
    refine bodyPost_ret (v := .tuple #[resDV ⟨zeroTab, ⟨ekd, emak, ebn, enum, eoff, erd, ewr, eap⟩, 0, 0⟩, .bool true]) (results_res2 rfl _ _ (w.heap.size + 1) (by rfl) (by rfl) HF.out) rfl ?_
    unfold DoPost
    rw [HP.out]
    exact ⟨rfl, XF.out, GF.out⟩
  · have hq' : ((q : Int) != 0) = true := bne_iff_ne.2 (by omega)
    have HP : Hid (mdo m ⟨kd, who, tw, fd, n, ⟨okd, omak, obn, onum, ooff, ord, owr, oap⟩⟩ = (m, errD q, false)) := HP0.out.trans (if_pos h0)
    clear HP0
    clear h0
    have hst := R1.out.store (r' := (errD q)) rfl
    have hsz : (resC (errD q)).toArray.size = 138 := by rw [List.size_toArray, resC_len rfl]
    have hg : w2.grownBy (w2.setRow (w.heap.size + 1) (resC (errD q)).toArray) (some (w.heap.size + 1)) := grown_setRow _ _ _
    have HF : Hid (ResAt (w2.setRow (w.heap.size + 1) (resC (errD q)).toArray) (w.heap.size + 1) (errD q)) := R1.out.setRow rfl
    have XF : Hid (ModAt (w2.setRow (w.heap.size + 1) (resC (errD q)).toArray) X m) := X1.out.kept (hg.block _ X1.out.1.lt (by have := Hxl.out; simp; omega))
    have GF : Hid (Kept (fun k => k = X) w (w2.setRow (w.heap.size + 1) (resC (errD q)).toArray)) := HG1.out.trans (Kept.of_grown hg (fun k => k = (w.heap.size + 1)) (fun k hk => (Option.some.inj hk).symm)) (fun i hi e => by omega)
    clear hg
    go_wp2
    refine bodyPost_ret (v := .tuple #[resDV (errD q), .bool false]) (results_res2 rfl _ _ (w.heap.size + 1) (by rfl) (by rfl) HF.out) rfl ?_
    unfold DoPost
    rw [HP.out]
    exact ⟨rfl, XF.out, GF.out⟩
set_option linter.unusedSimpArgs false in
set_option maxRecDepth 100000 in
set_option maxHeartbeats 25600000 in
theorem mdo_10 (kd who tw : Nat) (fd n okd : Int) (omak : ByteArray) (obn onum ooff : Int) (ord owr oap : Bool) (X : Nat) (m : ModD) (w : World) (hX : ModAt w X m) (hk : kd < 256) (hw : who < 256) (ht : tw < 256) (hd : -9223372036854775808 ≤ n ∧ n ≤ 9223372036854775807) (hmk : omak.size ≤ 70368744177664) (hTE : ∀ t ∈ m.tabs, tabE t = 0) (hm : kd % 11 = 10) :
    Calls Tryz.prog 21 #[.pointer (some ⟨X, 0, none⟩), .agg #[.int .u8 kd, .int .u8 who, .int .u8 tw, .int .i64 fd, .int .i64 n, .int .i64 okd, .string omak, .int .i64 obn, .int .i64 onum, .int .i64 ooff, .bool ord, .bool owr, .bool oap]] w (DoPost w X (mdo m ⟨kd, who, tw, fd, n, ⟨okd, omak, obn, onum, ooff, ord, owr, oap⟩⟩)) := by
  have HX : Hid (∀ W, Below w.heap.size w W → ModAt W X m) := fun W h => hX.later h
  have Hxl : Hid (X < w.heap.size) := hX.1.lt
  have HB0 : Hid (Below w.heap.size w ((w.alloc (.cells #[.int .u8 kd, .int .u8 who, .int .u8 tw, .int .i64 fd, .int .i64 n, .int .i64 okd, .string omak, .int .i64 obn, .int .i64 onum, .int .i64 ooff, .bool ord, .bool owr, .bool oap] 49)).alloc (.cells Tryz.zeroCells52 52))) := ((Below.refl _ _).alloc (Nat.le_refl _) _).alloc (by simp) _
  have B0 : Hid (RowIs ((w.alloc (.cells #[.int .u8 kd, .int .u8 who, .int .u8 tw, .int .i64 fd, .int .i64 n, .int .i64 okd, .string omak, .int .i64 obn, .int .i64 onum, .int .i64 ooff, .bool ord, .bool owr, .bool oap] 49)).alloc (.cells Tryz.zeroCells52 52)) w.heap.size 49 [.int .u8 kd, .int .u8 who, .int .u8 tw, .int .i64 fd, .int .i64 n, .int .i64 okd, .string omak, .int .i64 obn, .int .i64 onum, .int .i64 ooff, .bool ord, .bool owr, .bool oap]) := (new_row w 49 [.int .u8 kd, .int .u8 who, .int .u8 tw, .int .i64 fd, .int .i64 n, .int .i64 okd, .string omak, .int .i64 obn, .int .i64 onum, .int .i64 ooff, .bool ord, .bool owr, .bool oap]).later ((Below.refl _ _).alloc (Nat.le_refl _) _)
  have R0 : Hid (ResAt ((w.alloc (.cells #[.int .u8 kd, .int .u8 who, .int .u8 tw, .int .i64 fd, .int .i64 n, .int .i64 okd, .string omak, .int .i64 obn, .int .i64 onum, .int .i64 ooff, .bool ord, .bool owr, .bool oap] 49)).alloc (.cells Tryz.zeroCells52 52)) (w.heap.size + 1) (errD 0)) := by
    have := new_res (w.alloc (.cells #[.int .u8 kd, .int .u8 who, .int .u8 tw, .int .i64 fd, .int .i64 n, .int .i64 okd, .string omak, .int .i64 obn, .int .i64 onum, .int .i64 ooff, .bool ord, .bool owr, .bool oap] 49))
    rw [World.size_alloc] at this
    exact this
  have X0 := Lib.hid (HX.out _ HB0.out)
  obtain ⟨k, hk4⟩ : ∃ k : Nat, who % 4 = k := ⟨_, rfl⟩
  obtain ⟨i, hi4⟩ : ∃ i : Nat, tw % 4 = i := ⟨_, rfl⟩
  have HK : Hid (who % 4 = k ∧ k < 4) := ⟨hk4, by omega⟩
  have HI : Hid (tw % 4 = i ∧ i < 4) := ⟨hi4, by omega⟩
  have htk : (who : Int).tmod 4 = (k : Int) := by rw [Int.tmod_eq_emod_of_nonneg (by omega)]; omega
  have hti : (tw : Int).tmod 4 = (i : Int) := by rw [Int.tmod_eq_emod_of_nonneg (by omega)]; omega
  have k0 : (0 : Int) ≤ (k : Int) := by omega
  have k1 : (k : Int) < 4 := by omega
  have i0 : (0 : Int) ≤ (i : Int) := by omega
  have i1 : (i : Int) < 4 := by omega
  have Hd := Lib.hid hd
  have Hmk := Lib.hid hmk
  have HTE := Lib.hid hTE
  have hkn : (0 : Int) ≤ (kd : Int) := by omega
  have hkx : (kd : Int) ≤ 255 := by omega
  have hwn : (0 : Int) ≤ (who : Int) := by omega
  have hwx : (who : Int) ≤ 255 := by omega
  have htn : (0 : Int) ≤ (tw : Int) := by omega
  have htx : (tw : Int) ≤ 255 := by omega
  have HM := Lib.hid hm
  clear hd hmk hTE hk4 hi4 hX hm
  go_enter Tryz.func21, Tryz.ntmps21
  go_upto_region 1 with fail
  obtain ⟨w1, hw1⟩ : ∃ w1, ((w.alloc (.cells #[.int .u8 kd, .int .u8 who, .int .u8 tw, .int .i64 fd, .int .i64 n, .int .i64 okd, .string omak, .int .i64 obn, .int .i64 onum, .int .i64 ooff, .bool ord, .bool owr, .bool oap] 49)).alloc (.cells Tryz.zeroCells52 52)) = w1 := ⟨_, rfl⟩
  rw [hw1] at HB0 B0 R0 X0 ⊢
  clear hw1
  have b1 := B0.out.cell (i := 1) rfl
  have b2 := B0.out.cell (i := 2) rfl
  have hi64k : IntKind.i64.wrap (k : Int) = (k : Int) := IntWalk.i64_in _ (by omega)
  have hi64i : IntKind.i64.wrap (i : Int) = (i : Int) := IntWalk.i64_in _ (by omega)
  go_quiet (fail)
  clear b1 b2 htk hti hi64k hi64i
  have hbd : Below w1.heap.size w1 (w1.drewN nq) := ⟨rfl, rfl, rfl, Nat.le_refl _, fun _ _ => rfl⟩
  have HG1 : Hid (Kept (fun k => k = X) w (w1.drewN nq)) := Kept.of_below (HB0.out.trans (hbd.mono HB0.out.size)) _
  have B1 := Lib.hid (B0.out.later hbd)
  have R1 := Lib.hid (R0.out.later hbd)
  have X1 := Lib.hid (X0.out.later hbd)
  clear hbd HB0 B0 R0 X0
  generalize w1.drewN nq = w2 at *
  have hm := HM.out
  have hmi : (kd : Int) % 11 = 10 := by omega
  have HP0 : Hid (mdo m ⟨kd, who, tw, fd, n, ⟨okd, omak, obn, onum, ooff, ord, owr, oap⟩⟩ = mOne m k (dupF fd)) := by
    show _ = _
    rw [mD10 (o := ⟨kd, who, tw, fd, n, ⟨okd, omak, obn, onum, ooff, ord, owr, oap⟩⟩) hm]
    dsimp only
    rw [HK.out.1]
  clear HM hm
  have b0 := B1.out.cell (i := 0) rfl
  have b3 := B1.out.cell (i := 3) rfl
  have b4 := B1.out.cell (i := 4) rfl
  have HP1 := Lib.hid (HP0.out.trans (get_one m k fd (dupF fd) (fun t h => if_pos h)))
  clear HP0
  have HP0 := HP1
  clear HP1
  obtain ⟨q, hq⟩ : ∃ q, mGetE m k fd = q := ⟨_, rfl⟩
  have hc := mGet_any X1.out HK.out.2 fd
  rw [hq] at hc HP0
  have HC := Lib.hid hc
  have Hq := Lib.hid hq
  clear hc hq
  go_wp2_with fail
  refine HC.out.mono ?_
  rintro r w3 ⟨rfl, rfl⟩
  clear HC
  by_cases h0 : q = 0
  · subst h0
    obtain ⟨hth, hbd⟩ := mGet_ok Hq.out
    obtain ⟨f0, f1, hz⟩ := badD_no hbd
    obtain ⟨n0, rfl⟩ := Int.eq_ofNat_of_zero_le (show 0 ≤ fd by omega)
    have hn16 : n0 < 16 := by omega
    have Hn := Lib.hid hn16
    obtain ⟨x, hx⟩ := ent_some (X1.out.2.tl k) hn16
    have he : entD (mTab m k) (n0 : Int) = x := by unfold entD; rw [List.getD_eq_getElem?_getD, show ((n0 : Nat) : Int).toNat = n0 from rfl, hx]; rfl
    rw [he] at hz
    obtain ⟨ekd, emak, ebn, enum, eoff, erd, ewr, eap⟩ := x
    have Hx := Lib.hid hx
    have j0 : (0 : Int) ≤ (n0 : Int) := by omega
    have j1 : ((n0 : Nat) : Int) < 16 := by omega
    have HP1 : Hid (mdo m ⟨kd, who, tw, (n0 : Int), n, ⟨okd, omak, obn, onum, ooff, ord, owr, oap⟩⟩ = (mUpd m k (addF ⟨ekd, emak, ebn, enum, eoff, erd, ewr, eap⟩ (mTab m k)).2, (addF ⟨ekd, emak, ebn, enum, eoff, erd, ewr, eap⟩ (mTab m k)).1, (addF ⟨ekd, emak, ebn, enum, eoff, erd, ewr, eap⟩ (mTab m k)).2.isSome)) := by
      refine HP0.out.trans ((if_neg (by simp)).trans ?_)
      unfold dupF
      rw [if_neg (by rw [hbd]; decide), he]
    have Hth := Lib.hid hth
    clear HP0 hz he hx hbd hth f0 f1 hn16
    go_upto_region 60 with fail
    clear b0 b3 b4
    have hbd : Below w2.heap.size w2 w2.drew := (Below.refl _ _).drew
    have B2 := Lib.hid (B1.out.later hbd)
    have R2 := Lib.hid (R1.out.later hbd)
    have X2 := Lib.hid (X1.out.later hbd)
    have HG2 : Hid (Kept (fun k => k = X) w w2.drew) := HG1.out.trans (Kept.of_below hbd (fun _ => False)) (fun _ _ h => h.elim)
    clear hbd B1 R1 X1 HG1
    refine wp_region_held_drew (S := (fun W => RowIs W w.heap.size 49 [.int .u8 kd, .int .u8 who, .int .u8 tw, .int .i64 (n0 : Int), .int .i64 n, .int .i64 okd, .string omak, .int .i64 obn, .int .i64 onum, .int .i64 ooff, .bool ord, .bool owr, .bool oap] ∧ ModAt W X m)) (by kernel_rfl) (⟨B2.out, X2.out⟩) (fun hHeld0 => ?_)
    obtain ⟨wv, hwn⟩ : ∃ x, w2.drew = x := ⟨_, rfl⟩
    rw [hwn] at B2 R2 X2 HG2 hHeld0 ⊢
    clear hwn
    refine wpAnyH_take (i := 0) (v := ?_) rfl (by kernel_rfl) (by kernel_rfl) (by kernel_rfl) (fun _ _ _ h => h) (Or.inl ⟨by rfl, ?_⟩) (by assumption) ?_
    rotate_left
    · (intro wx hSw; (try dsimp only at hSw); go_simp <;> with_reducible rfl)
    try simp only [Act.put, List.setIfInBounds_toArray, List.set_cons_zero, List.set_cons_succ, List.getElem_toArray, List.getElem_cons_zero, List.getElem_cons_succ]
    refine wpAnyH_take (i := 1) (v := ?_) rfl (by kernel_rfl) (by kernel_rfl) (by kernel_rfl) (fun _ _ _ h => h) (Or.inl ⟨by rfl, ?_⟩) (by assumption) ?_
    rotate_left
    · (intro wx hSw; (try dsimp only at hSw); go_simp <;> with_reducible rfl)
    try simp only [Act.put, List.setIfInBounds_toArray, List.set_cons_zero, List.set_cons_succ, List.getElem_toArray, List.getElem_cons_zero, List.getElem_cons_succ]
    refine wpAnyH_take (i := 2) (v := ?_) rfl (by kernel_rfl) (by kernel_rfl) (by kernel_rfl) (fun _ _ _ h => h) (Or.inl ⟨by rfl, ?_⟩) (by assumption) ?_
    rotate_left
    · (intro wx hSw; (try dsimp only at hSw); go_simp <;> with_reducible rfl)
    try simp only [Act.put, List.setIfInBounds_toArray, List.set_cons_zero, List.set_cons_succ, List.getElem_toArray, List.getElem_cons_zero, List.getElem_cons_succ]
    refine wpAnyH_take (i := 3) (v := ?_) rfl (by kernel_rfl) (by kernel_rfl) (by kernel_rfl) (fun _ _ _ h => h) (Or.inl ⟨by rfl, ?_⟩) (by assumption) ?_
    rotate_left
    · (intro wx hSw; (try dsimp only at hSw); have c3 := hSw.1.cell (i := 3) rfl; go_simp <;> with_reducible rfl)
    try simp only [Act.put, List.setIfInBounds_toArray, List.set_cons_zero, List.set_cons_succ, List.getElem_toArray, List.getElem_cons_zero, List.getElem_cons_succ]
    refine wpAnyH_take (i := 4) (v := ?_) rfl (by kernel_rfl) (by kernel_rfl) (by kernel_rfl) (fun _ _ _ h => h) (Or.inl ⟨by rfl, ?_⟩) (by assumption) ?_
    rotate_left
    · (intro wx hSw; (try dsimp only at hSw); go_simp <;> with_reducible rfl)
    try simp only [Act.put, List.setIfInBounds_toArray, List.set_cons_zero, List.set_cons_succ, List.getElem_toArray, List.getElem_cons_zero, List.getElem_cons_succ]
    refine wpAnyH_take (i := 5) (v := ?_) rfl (by kernel_rfl) (by kernel_rfl) (by kernel_rfl) (fun _ _ _ h => h) (Or.inl ⟨by rfl, ?_⟩) (by assumption) ?_
    rotate_left
    · (intro wx hSw; (try dsimp only at hSw); go_simp <;> with_reducible rfl)
    try simp only [Act.put, List.setIfInBounds_toArray, List.set_cons_zero, List.set_cons_succ, List.getElem_toArray, List.getElem_cons_zero, List.getElem_cons_succ]
    refine wpAnyH_take (i := 6) (v := ?_) rfl (by kernel_rfl) (by kernel_rfl) (by kernel_rfl) (fun _ _ _ h => h) (Or.inl ⟨by rfl, ?_⟩) (by assumption) ?_
    rotate_left
    · (intro wx hSw; (try dsimp only at hSw); go_simp <;> with_reducible rfl)
    try simp only [Act.put, List.setIfInBounds_toArray, List.set_cons_zero, List.set_cons_succ, List.getElem_toArray, List.getElem_cons_zero, List.getElem_cons_succ]
    refine wpAnyH_take (i := 7) (v := ?_) rfl (by kernel_rfl) (by kernel_rfl) (by kernel_rfl) (fun _ _ _ h => h) (Or.inl ⟨by rfl, ?_⟩) (by assumption) ?_
    rotate_left
    · (intro wx hSw; (try dsimp only at hSw); go_simp <;> with_reducible rfl)
    try simp only [Act.put, List.setIfInBounds_toArray, List.set_cons_zero, List.set_cons_succ, List.getElem_toArray, List.getElem_cons_zero, List.getElem_cons_succ]
    refine wpAnyH_take (i := 8) (v := ?_) rfl (by kernel_rfl) (by kernel_rfl) (by kernel_rfl) (fun _ _ _ h => h) (Or.inl ⟨by rfl, ?_⟩) (by assumption) ?_
    rotate_left
    · (intro wx hSw; (try dsimp only at hSw); have z0 : wx.cell? ⟨X, k * 128 + n0 * 8, none⟩ = some (.int .i64 ekd) := hSw.2.ent HK.out.2 Hx.out (j := 0) rfl; have z1 : wx.cell? ⟨X, k * 128 + n0 * 8 + 1, none⟩ = some (.string emak) := hSw.2.ent HK.out.2 Hx.out (j := 1) rfl; have z2 : wx.cell? ⟨X, k * 128 + n0 * 8 + 2, none⟩ = some (.int .i64 ebn) := hSw.2.ent HK.out.2 Hx.out (j := 2) rfl; have z3 : wx.cell? ⟨X, k * 128 + n0 * 8 + 3, none⟩ = some (.int .i64 enum) := hSw.2.ent HK.out.2 Hx.out (j := 3) rfl; have z4 : wx.cell? ⟨X, k * 128 + n0 * 8 + 4, none⟩ = some (.int .i64 eoff) := hSw.2.ent HK.out.2 Hx.out (j := 4) rfl; have z5 : wx.cell? ⟨X, k * 128 + n0 * 8 + 5, none⟩ = some (.bool erd) := hSw.2.ent HK.out.2 Hx.out (j := 5) rfl; have z6 : wx.cell? ⟨X, k * 128 + n0 * 8 + 6, none⟩ = some (.bool ewr) := hSw.2.ent HK.out.2 Hx.out (j := 6) rfl; have z7 : wx.cell? ⟨X, k * 128 + n0 * 8 + 7, none⟩ = some (.bool eap) := hSw.2.ent HK.out.2 Hx.out (j := 7) rfl; go_simp <;> with_reducible rfl)
    try simp only [Act.put, List.setIfInBounds_toArray, List.set_cons_zero, List.set_cons_succ, List.getElem_toArray, List.getElem_cons_zero, List.getElem_cons_succ]
    refine wpAnyH_ready (rs := [9]) (by kernel_rfl) (by simp) ?_
    refine AllReadyH.cons rfl (fun K hK => ?_) AllReadyH.nil
    have hb : Below wv.heap.size wv (wv.alloc (.cells #[.int .i64 0, .string ⟨#[]⟩, .int .i64 0, .int .i64 0, .int .i64 0, .bool false, .bool false, .bool false] 34)) := (Below.refl _ _).alloc (Nat.le_refl _) _
    have B3 := Lib.hid (B2.out.later hb)
    have R3 := Lib.hid (R2.out.later hb)
    have X3 := Lib.hid (X2.out.later hb)
    have HG3 : Hid (Kept (fun k => k = X) w (wv.alloc (.cells #[.int .i64 0, .string ⟨#[]⟩, .int .i64 0, .int .i64 0, .int .i64 0, .bool false, .bool false, .bool false] 34))) := HG2.out.trans (Kept.of_below hb (fun _ => False)) (fun _ _ h => h.elim)
    have Y3 : Hid (OpnAt (wv.alloc (.cells #[.int .i64 0, .string ⟨#[]⟩, .int .i64 0, .int .i64 0, .int .i64 0, .bool false, .bool false, .bool false] 34)) wv.heap.size ⟨0, ⟨#[]⟩, 0, 0, 0, false, false, false⟩) := World.alloc_heap_new wv _
    have HY : Hid (w.heap.size + 1 < wv.heap.size ∧ X < wv.heap.size) := ⟨R2.out.1.lt, X2.out.1.lt⟩
    clear hb
    go_simp
    refine hK.out _ _ (⟨B3.out, X3.out⟩) (fun hHeld1 => ?_)
    clear hK K hHeld0
    try simp only [Act.put, List.setIfInBounds_toArray, List.set_cons_zero, List.set_cons_succ, List.getElem_toArray, List.getElem_cons_zero, List.getElem_cons_succ]
    refine wpAnyH_ready (rs := [10]) (by kernel_rfl) (by simp) ?_
    refine AllReadyH.cons rfl (fun K hK => ?_) AllReadyH.nil
    obtain ⟨Y, hY⟩ : ∃ Y, wv.heap.size = Y := ⟨_, rfl⟩
    rw [hY] at Y3 HY ⊢
    obtain ⟨w4, hwn⟩ : ∃ x, (wv.alloc (.cells #[.int .i64 0, .string ⟨#[]⟩, .int .i64 0, .int .i64 0, .int .i64 0, .bool false, .bool false, .bool false] 34)) = x := ⟨_, rfl⟩
    rw [hwn] at B3 R3 X3 HG3 Y3 hHeld1 ⊢
    clear hwn
    clear hY
    obtain ⟨d0, d1, d2, d3, d4, d5, d6, d7⟩ := Y3.out.cells
    have q0 := Y3.out.free 0
    have q1 := Y3.out.free 1
    have q2 := Y3.out.free 2
    have q3 := Y3.out.free 3
    have q4 := Y3.out.free 4
    have q5 := Y3.out.free 5
    have q6 := Y3.out.free 6
    have q7 := Y3.out.free 7
    have hg : w4.grownBy ((((((((w4.setCell ⟨Y, 0, none⟩ (.int .i64 ekd)).setCell ⟨Y, 1, none⟩ (.string emak)).setCell ⟨Y, 2, none⟩ (.int .i64 ebn)).setCell ⟨Y, 3, none⟩ (.int .i64 enum)).setCell ⟨Y, 4, none⟩ (.int .i64 eoff)).setCell ⟨Y, 5, none⟩ (.bool erd)).setCell ⟨Y, 6, none⟩ (.bool ewr)).setCell ⟨Y, 7, none⟩ (.bool eap)) (some Y) := grown_set8 _ _ _ _ _ _ _ _ _ _ _ _ _ _ _ _ _ _
    have B4 := Lib.hid (B3.out.kept (hg.block _ B3.out.lt (by have := HY.out.1; simp; omega)))
    have R4 := Lib.hid (R3.out.kept (hg.block _ R3.out.1.lt (by have := HY.out.1; simp; omega)))
    have X4 := Lib.hid (X3.out.kept (hg.block _ X3.out.1.lt (by have := HY.out.2; simp; omega)))
    have HG4 : Hid (Kept (fun k => k = X) w ((((((((w4.setCell ⟨Y, 0, none⟩ (.int .i64 ekd)).setCell ⟨Y, 1, none⟩ (.string emak)).setCell ⟨Y, 2, none⟩ (.int .i64 ebn)).setCell ⟨Y, 3, none⟩ (.int .i64 enum)).setCell ⟨Y, 4, none⟩ (.int .i64 eoff)).setCell ⟨Y, 5, none⟩ (.bool erd)).setCell ⟨Y, 6, none⟩ (.bool ewr)).setCell ⟨Y, 7, none⟩ (.bool eap))) := HG3.out.trans (Kept.of_grown hg (fun k => k = Y) (fun k hk => (Option.some.inj hk).symm)) (fun i hi e => by have := HY.out.1; omega)
    have Y4 : Hid (OpnAt ((((((((w4.setCell ⟨Y, 0, none⟩ (.int .i64 ekd)).setCell ⟨Y, 1, none⟩ (.string emak)).setCell ⟨Y, 2, none⟩ (.int .i64 ebn)).setCell ⟨Y, 3, none⟩ (.int .i64 enum)).setCell ⟨Y, 4, none⟩ (.int .i64 eoff)).setCell ⟨Y, 5, none⟩ (.bool erd)).setCell ⟨Y, 6, none⟩ (.bool ewr)).setCell ⟨Y, 7, none⟩ (.bool eap)) Y ⟨ekd, emak, ebn, enum, eoff, erd, ewr, eap⟩) := opn_stored Y3.out ⟨ekd, emak, ebn, enum, eoff, erd, ewr, eap⟩
    clear hg
    go_simp
    refine hK.out _ _ (⟨B4.out, X4.out⟩) (fun hHeld2 => ?_)
    clear hK K hHeld1
    try simp only [Act.put, List.setIfInBounds_toArray, List.set_cons_zero, List.set_cons_succ, List.getElem_toArray, List.getElem_cons_zero, List.getElem_cons_succ]
    refine wpAnyH_done (by kernel_rfl) ?_ _
    clear d0 d1 d2 d3 d4 d5 d6 d7 q0 q1 q2 q3 q4 q5 q6 q7 B2 R2 X2 HG2 B3 R3 X3 HG3 Y3
    go_upto_region 61 with fail
    obtain ⟨w5, hwn⟩ : ∃ x, ((((((((w4.setCell ⟨Y, 0, none⟩ (.int .i64 ekd)).setCell ⟨Y, 1, none⟩ (.string emak)).setCell ⟨Y, 2, none⟩ (.int .i64 ebn)).setCell ⟨Y, 3, none⟩ (.int .i64 enum)).setCell ⟨Y, 4, none⟩ (.int .i64 eoff)).setCell ⟨Y, 5, none⟩ (.bool erd)).setCell ⟨Y, 6, none⟩ (.bool ewr)).setCell ⟨Y, 7, none⟩ (.bool eap)) = x := ⟨_, rfl⟩
    rw [hwn] at B4 R4 X4 HG4 Y4 ⊢
    clear hwn
    have b0 := B4.out.cell (i := 0) rfl
    have hl := X4.out.2.tl k
    have hc := mFree_any X4.out HK.out.2
    have Hl := Lib.hid hl
    rcases freeI_cases (mTab m k) hl with ⟨g1, g2⟩ | ⟨j, g1, g2, g3⟩
    · rw [g2] at hc
      have HC := Lib.hid hc
      have Hg1 := Lib.hid g1
      clear hc g1 g2 hl
      go_wp2_with fail
      refine HC.out.mono ?_
      rintro r w9 ⟨rfl, rfl⟩
      clear HC
      have HP : Hid (mdo m ⟨kd, who, tw, (n0 : Int), n, ⟨okd, omak, obn, onum, ooff, ord, owr, oap⟩⟩ = (m, errD 9, false)) := by
        refine HP1.out.trans ?_
        unfold addF
        rw [Hg1.out]
        rfl
      clear HP1
      have hst := R4.out.store (r' := (errD 9)) rfl
      have hsz : (resC (errD 9)).toArray.size = 138 := by rw [List.size_toArray, resC_len rfl]
      have hg : w5.grownBy (w5.setRow (w.heap.size + 1) (resC (errD 9)).toArray) (some (w.heap.size + 1)) := grown_setRow _ _ _
      have HF : Hid (ResAt (w5.setRow (w.heap.size + 1) (resC (errD 9)).toArray) (w.heap.size + 1) (errD 9)) := R4.out.setRow rfl
      have XF : Hid (ModAt (w5.setRow (w.heap.size + 1) (resC (errD 9)).toArray) X m) := X4.out.kept (hg.block _ X4.out.1.lt (by have := Hxl.out; simp; omega))
      have GF : Hid (Kept (fun k => k = X) w (w5.setRow (w.heap.size + 1) (resC (errD 9)).toArray)) := HG4.out.trans (Kept.of_grown hg (fun k => k = (w.heap.size + 1)) (fun k hk => (Option.some.inj hk).symm)) (fun i hi e => by omega)
      clear hg
      go_wp2
      refine bodyPost_ret (v := .tuple #[resDV (errD 9), .bool false]) (results_res2 rfl _ _ (w.heap.size + 1) (by rfl) (by rfl) HF.out) rfl ?_
      unfold DoPost
      rw [HP.out]
      exact ⟨rfl, XF.out, GF.out⟩
    · rw [g2] at hc
      have HC := Lib.hid hc
      have Hg1 := Lib.hid g1
      obtain ⟨x0, hx0⟩ := ent_some hl g3
      obtain ⟨kd0, mak0, bn0, num0, off0, rd0, wr0, ap0⟩ := x0
      have Hx0 := Lib.hid hx0
      have Hj := Lib.hid g3
      have jj0 : (0 : Int) ≤ (j : Int) := by omega
      have jj1 : (j : Int) < 16 := by omega
      clear hc g1 g2 g3 hl hx0
      go_wp2_with fail
      refine HC.out.mono ?_
      rintro r w9 ⟨rfl, rfl⟩
      clear HC
      have HP : Hid (mdo m ⟨kd, who, tw, (n0 : Int), n, ⟨okd, omak, obn, onum, ooff, ord, owr, oap⟩⟩ = (⟨m.tabs.set k ((mTab m k).set j ⟨ekd, emak, ebn, enum, eoff, erd, ewr, eap⟩), m.there⟩, ⟨zeroTab, zeroO, (j : Int), 0⟩, true)) := by
        refine HP1.out.trans ?_
        unfold addF
        rw [Hg1.out]
        dsimp only
        rw [upd_there X4.out.2 HK.out.2 Hth.out]
        rfl
      clear HP1
      go_upto_region 69 with fail
      clear b0
      have Y5 : Hid (OpnAt w5.drew Y ⟨ekd, emak, ebn, enum, eoff, erd, ewr, eap⟩) := Y4.out
      have hbd : Below w5.heap.size w5 w5.drew := (Below.refl _ _).drew
      have B5 := Lib.hid (B4.out.later hbd)
      have R5 := Lib.hid (R4.out.later hbd)
      have X5 := Lib.hid (X4.out.later hbd)
      have HG5 : Hid (Kept (fun k => k = X) w w5.drew) := HG4.out.trans (Kept.of_below hbd (fun _ => False)) (fun _ _ h => h.elim)
      clear hbd B4 R4 X4 HG4
      refine wp_region_held_drew (S := (fun W => OpnAt W Y ⟨ekd, emak, ebn, enum, eoff, erd, ewr, eap⟩)) (by kernel_rfl) (Y5.out) (fun hHeld0 => ?_)
      obtain ⟨wv, hwn⟩ : ∃ x, w5.drew = x := ⟨_, rfl⟩
      rw [hwn] at B5 R5 X5 HG5 Y5 hHeld0 ⊢
      clear hwn
      refine wpAnyH_take (i := 0) (v := ?_) rfl (by kernel_rfl) (by kernel_rfl) (by kernel_rfl) (fun _ _ _ h => h) (Or.inl ⟨by rfl, ?_⟩) (by assumption) ?_
      rotate_left
      · (intro wx hSw; (try dsimp only at hSw); go_simp <;> with_reducible rfl)
      try simp only [Act.put, List.setIfInBounds_toArray, List.set_cons_zero, List.set_cons_succ, List.getElem_toArray, List.getElem_cons_zero, List.getElem_cons_succ]
      refine wpAnyH_take (i := 1) (v := ?_) rfl (by kernel_rfl) (by kernel_rfl) (by kernel_rfl) (fun _ _ _ h => h) (Or.inl ⟨by rfl, ?_⟩) (by assumption) ?_
      rotate_left
      · (intro wx hSw; (try dsimp only at hSw); go_simp <;> with_reducible rfl)
      try simp only [Act.put, List.setIfInBounds_toArray, List.set_cons_zero, List.set_cons_succ, List.getElem_toArray, List.getElem_cons_zero, List.getElem_cons_succ]
      refine wpAnyH_take (i := 2) (v := ?_) rfl (by kernel_rfl) (by kernel_rfl) (by kernel_rfl) (fun _ _ _ h => h) (Or.inl ⟨by rfl, ?_⟩) (by assumption) ?_
      rotate_left
      · (intro wx hSw; (try dsimp only at hSw); go_simp <;> with_reducible rfl)
      try simp only [Act.put, List.setIfInBounds_toArray, List.set_cons_zero, List.set_cons_succ, List.getElem_toArray, List.getElem_cons_zero, List.getElem_cons_succ]
      refine wpAnyH_take (i := 3) (v := ?_) rfl (by kernel_rfl) (by kernel_rfl) (by kernel_rfl) (fun _ _ _ h => h) (Or.inl ⟨by rfl, ?_⟩) (by assumption) ?_
      rotate_left
      · (intro wx hSw; (try dsimp only at hSw); obtain ⟨d0, d1, d2, d3, d4, d5, d6, d7⟩ := hSw.cells; go_simp <;> with_reducible rfl)
      try simp only [Act.put, List.setIfInBounds_toArray, List.set_cons_zero, List.set_cons_succ, List.getElem_toArray, List.getElem_cons_zero, List.getElem_cons_succ]
      refine wpAnyH_take (i := 4) (v := ?_) rfl (by kernel_rfl) (by kernel_rfl) (by kernel_rfl) (fun _ _ _ h => h) (Or.inl ⟨by rfl, ?_⟩) (by assumption) ?_
      rotate_left
      · (intro wx hSw; (try dsimp only at hSw); go_simp <;> with_reducible rfl)
      try simp only [Act.put, List.setIfInBounds_toArray, List.set_cons_zero, List.set_cons_succ, List.getElem_toArray, List.getElem_cons_zero, List.getElem_cons_succ]
      refine wpAnyH_take (i := 5) (v := ?_) rfl (by kernel_rfl) (by kernel_rfl) (by kernel_rfl) (fun _ _ _ h => h) (Or.inl ⟨by rfl, ?_⟩) (by assumption) ?_
      rotate_left
      · (intro wx hSw; (try dsimp only at hSw); go_simp <;> with_reducible rfl)
      try simp only [Act.put, List.setIfInBounds_toArray, List.set_cons_zero, List.set_cons_succ, List.getElem_toArray, List.getElem_cons_zero, List.getElem_cons_succ]
      refine wpAnyH_take (i := 6) (v := ?_) rfl (by kernel_rfl) (by kernel_rfl) (by kernel_rfl) (fun _ _ _ h => h) (Or.inl ⟨by rfl, ?_⟩) (by assumption) ?_
      rotate_left
      · (intro wx hSw; (try dsimp only at hSw); go_simp <;> with_reducible rfl)
      try simp only [Act.put, List.setIfInBounds_toArray, List.set_cons_zero, List.set_cons_succ, List.getElem_toArray, List.getElem_cons_zero, List.getElem_cons_succ]
      refine wpAnyH_take (i := 7) (v := ?_) rfl (by kernel_rfl) (by kernel_rfl) (by kernel_rfl) (fun _ _ _ h => h) (Or.inl ⟨by rfl, ?_⟩) (by assumption) ?_
      rotate_left
      · (intro wx hSw; (try dsimp only at hSw); go_simp <;> with_reducible rfl)
      try simp only [Act.put, List.setIfInBounds_toArray, List.set_cons_zero, List.set_cons_succ, List.getElem_toArray, List.getElem_cons_zero, List.getElem_cons_succ]
      refine wpAnyH_ready (rs := [8]) (by kernel_rfl) (by simp) ?_
      refine AllReadyH.cons rfl (fun K hK => ?_) AllReadyH.nil
      have y0 : wv.cell? ⟨X, k * 128 + j * 8, none⟩ = some (.int .i64 kd0) := X5.out.ent HK.out.2 Hx0.out (j := 0) rfl
      have y1 : wv.cell? ⟨X, k * 128 + j * 8 + 1, none⟩ = some (.string mak0) := X5.out.ent HK.out.2 Hx0.out (j := 1) rfl
      have y2 : wv.cell? ⟨X, k * 128 + j * 8 + 2, none⟩ = some (.int .i64 bn0) := X5.out.ent HK.out.2 Hx0.out (j := 2) rfl
      have y3 : wv.cell? ⟨X, k * 128 + j * 8 + 3, none⟩ = some (.int .i64 num0) := X5.out.ent HK.out.2 Hx0.out (j := 3) rfl
      have y4 : wv.cell? ⟨X, k * 128 + j * 8 + 4, none⟩ = some (.int .i64 off0) := X5.out.ent HK.out.2 Hx0.out (j := 4) rfl
      have y5 : wv.cell? ⟨X, k * 128 + j * 8 + 5, none⟩ = some (.bool rd0) := X5.out.ent HK.out.2 Hx0.out (j := 5) rfl
      have y6 : wv.cell? ⟨X, k * 128 + j * 8 + 6, none⟩ = some (.bool wr0) := X5.out.ent HK.out.2 Hx0.out (j := 6) rfl
      have y7 : wv.cell? ⟨X, k * 128 + j * 8 + 7, none⟩ = some (.bool ap0) := X5.out.ent HK.out.2 Hx0.out (j := 7) rfl
      have yf0 := X5.out.free (k * 128 + j * 8)
      have yf1 := X5.out.free (k * 128 + j * 8 + 1)
      have yf2 := X5.out.free (k * 128 + j * 8 + 2)
      have yf3 := X5.out.free (k * 128 + j * 8 + 3)
      have yf4 := X5.out.free (k * 128 + j * 8 + 4)
      have yf5 := X5.out.free (k * 128 + j * 8 + 5)
      have yf6 := X5.out.free (k * 128 + j * 8 + 6)
      have yf7 := X5.out.free (k * 128 + j * 8 + 7)
      have hgy : wv.grownBy ((((((((wv.setCell ⟨X, k * 128 + j * 8, none⟩ (.int .i64 ekd)).setCell ⟨X, k * 128 + j * 8 + 1, none⟩ (.string emak)).setCell ⟨X, k * 128 + j * 8 + 2, none⟩ (.int .i64 ebn)).setCell ⟨X, k * 128 + j * 8 + 3, none⟩ (.int .i64 enum)).setCell ⟨X, k * 128 + j * 8 + 4, none⟩ (.int .i64 eoff)).setCell ⟨X, k * 128 + j * 8 + 5, none⟩ (.bool erd)).setCell ⟨X, k * 128 + j * 8 + 6, none⟩ (.bool ewr)).setCell ⟨X, k * 128 + j * 8 + 7, none⟩ (.bool eap)) (some X) := grown_set8 _ _ _ _ _ _ _ _ _ _ _ _ _ _ _ _ _ _
      have Y6 : Hid (OpnAt ((((((((wv.setCell ⟨X, k * 128 + j * 8, none⟩ (.int .i64 ekd)).setCell ⟨X, k * 128 + j * 8 + 1, none⟩ (.string emak)).setCell ⟨X, k * 128 + j * 8 + 2, none⟩ (.int .i64 ebn)).setCell ⟨X, k * 128 + j * 8 + 3, none⟩ (.int .i64 enum)).setCell ⟨X, k * 128 + j * 8 + 4, none⟩ (.int .i64 eoff)).setCell ⟨X, k * 128 + j * 8 + 5, none⟩ (.bool erd)).setCell ⟨X, k * 128 + j * 8 + 6, none⟩ (.bool ewr)).setCell ⟨X, k * 128 + j * 8 + 7, none⟩ (.bool eap)) Y ⟨ekd, emak, ebn, enum, eoff, erd, ewr, eap⟩) := (hgy.block _ (lt_of_heap Y5.out) (by have := HY.out.2; simp; omega)).trans Y5.out
      clear hgy
      have hg : wv.grownBy ((((((((wv.setCell ⟨X, k * 128 + j * 8, none⟩ (.int .i64 ekd)).setCell ⟨X, k * 128 + j * 8 + 1, none⟩ (.string emak)).setCell ⟨X, k * 128 + j * 8 + 2, none⟩ (.int .i64 ebn)).setCell ⟨X, k * 128 + j * 8 + 3, none⟩ (.int .i64 enum)).setCell ⟨X, k * 128 + j * 8 + 4, none⟩ (.int .i64 eoff)).setCell ⟨X, k * 128 + j * 8 + 5, none⟩ (.bool erd)).setCell ⟨X, k * 128 + j * 8 + 6, none⟩ (.bool ewr)).setCell ⟨X, k * 128 + j * 8 + 7, none⟩ (.bool eap)) (some X) := grown_set8 _ _ _ _ _ _ _ _ _ _ _ _ _ _ _ _ _ _
      have B6 := Lib.hid (B5.out.kept (hg.block _ B5.out.lt (by have := Hxl.out; simp; omega)))
      have R6 := Lib.hid (R5.out.kept (hg.block _ R5.out.1.lt (by have := Hxl.out; simp; omega)))
      have X6 : Hid (ModAt ((((((((wv.setCell ⟨X, k * 128 + j * 8, none⟩ (.int .i64 ekd)).setCell ⟨X, k * 128 + j * 8 + 1, none⟩ (.string emak)).setCell ⟨X, k * 128 + j * 8 + 2, none⟩ (.int .i64 ebn)).setCell ⟨X, k * 128 + j * 8 + 3, none⟩ (.int .i64 enum)).setCell ⟨X, k * 128 + j * 8 + 4, none⟩ (.int .i64 eoff)).setCell ⟨X, k * 128 + j * 8 + 5, none⟩ (.bool erd)).setCell ⟨X, k * 128 + j * 8 + 6, none⟩ (.bool ewr)).setCell ⟨X, k * 128 + j * 8 + 7, none⟩ (.bool eap)) X ⟨m.tabs.set k ((mTab m k).set j ⟨ekd, emak, ebn, enum, eoff, erd, ewr, eap⟩), m.there⟩) := X5.out.setEnt HK.out.2 Hj.out ⟨ekd, emak, ebn, enum, eoff, erd, ewr, eap⟩
      have HG6 : Hid (Kept (fun k => k = X) w ((((((((wv.setCell ⟨X, k * 128 + j * 8, none⟩ (.int .i64 ekd)).setCell ⟨X, k * 128 + j * 8 + 1, none⟩ (.string emak)).setCell ⟨X, k * 128 + j * 8 + 2, none⟩ (.int .i64 ebn)).setCell ⟨X, k * 128 + j * 8 + 3, none⟩ (.int .i64 enum)).setCell ⟨X, k * 128 + j * 8 + 4, none⟩ (.int .i64 eoff)).setCell ⟨X, k * 128 + j * 8 + 5, none⟩ (.bool erd)).setCell ⟨X, k * 128 + j * 8 + 6, none⟩ (.bool ewr)).setCell ⟨X, k * 128 + j * 8 + 7, none⟩ (.bool eap))) := HG5.out.trans (Kept.of_grown hg (fun k => k = X) (fun k hk => (Option.some.inj hk).symm)) (fun _ _ h => h)
      clear hg
      go_simp
      refine hK.out _ _ (Y6.out) (fun hHeld1 => ?_)
      clear hK K hHeld0
      try simp only [Act.put, List.setIfInBounds_toArray, List.set_cons_zero, List.set_cons_succ, List.getElem_toArray, List.getElem_cons_zero, List.getElem_cons_succ]
      refine wpAnyH_done (by kernel_rfl) ?_ _
      clear y0 yf0 y1 yf1 y2 yf2 y3 yf3 y4 yf4 y5 yf5 y6 yf6 y7 yf7
      obtain ⟨wy, hwn⟩ : ∃ x, ((((((((wv.setCell ⟨X, k * 128 + j * 8, none⟩ (.int .i64 ekd)).setCell ⟨X, k * 128 + j * 8 + 1, none⟩ (.string emak)).setCell ⟨X, k * 128 + j * 8 + 2, none⟩ (.int .i64 ebn)).setCell ⟨X, k * 128 + j * 8 + 3, none⟩ (.int .i64 enum)).setCell ⟨X, k * 128 + j * 8 + 4, none⟩ (.int .i64 eoff)).setCell ⟨X, k * 128 + j * 8 + 5, none⟩ (.bool erd)).setCell ⟨X, k * 128 + j * 8 + 6, none⟩ (.bool ewr)).setCell ⟨X, k * 128 + j * 8 + 7, none⟩ (.bool eap)) = x := ⟨_, rfl⟩
      rw [hwn] at B6 R6 X6 HG6 ⊢
      clear hwn
      have hst := R6.out.store (r' := ⟨zeroTab, zeroO, (j : Int), 0⟩) rfl
      have hsz : (resC ⟨zeroTab, zeroO, (j : Int), 0⟩).toArray.size = 138 := by rw [List.size_toArray, resC_len rfl]
      have hg : wy.grownBy (wy.setRow (w.heap.size + 1) (resC ⟨zeroTab, zeroO, (j : Int), 0⟩).toArray) (some (w.heap.size + 1)) := grown_setRow _ _ _
      have HF : Hid (ResAt (wy.setRow (w.heap.size + 1) (resC ⟨zeroTab, zeroO, (j : Int), 0⟩).toArray) (w.heap.size + 1) ⟨zeroTab, zeroO, (j : Int), 0⟩) := R6.out.setRow rfl
      have XF : Hid (ModAt (wy.setRow (w.heap.size + 1) (resC ⟨zeroTab, zeroO, (j : Int), 0⟩).toArray) X ⟨m.tabs.set k ((mTab m k).set j ⟨ekd, emak, ebn, enum, eoff, erd, ewr, eap⟩), m.there⟩) := X6.out.kept (hg.block _ X6.out.1.lt (by have := Hxl.out; simp; omega))
      have GF : Hid (Kept (fun k => k = X) w (wy.setRow (w.heap.size + 1) (resC ⟨zeroTab, zeroO, (j : Int), 0⟩).toArray)) := HG6.out.trans (Kept.of_grown hg (fun k => k = (w.heap.size + 1)) (fun k hk => (Option.some.inj hk).symm)) (fun i hi e => by omega)
      clear hg
      go_wp2
      refine bodyPost_ret (v := .tuple #[resDV ⟨zeroTab, zeroO, (j : Int), 0⟩, .bool true]) (results_res2 rfl _ _ (w.heap.size + 1) (by rfl) (by rfl) HF.out) rfl ?_
      unfold DoPost
      rw [HP.out]
      exact ⟨rfl, XF.out, GF.out⟩
  · have hq' : ((q : Int) != 0) = true := bne_iff_ne.2 (by omega)
    have HP : Hid (mdo m ⟨kd, who, tw, fd, n, ⟨okd, omak, obn, onum, ooff, ord, owr, oap⟩⟩ = (m, errD q, false)) := HP0.out.trans (if_pos h0)
    clear HP0
    clear h0
    have hst := R1.out.store (r' := (errD q)) rfl
    have hsz : (resC (errD q)).toArray.size = 138 := by rw [List.size_toArray, resC_len rfl]
    have hg : w2.grownBy (w2.setRow (w.heap.size + 1) (resC (errD q)).toArray) (some (w.heap.size + 1)) := grown_setRow _ _ _
    have HF : Hid (ResAt (w2.setRow (w.heap.size + 1) (resC (errD q)).toArray) (w.heap.size + 1) (errD q)) := R1.out.setRow rfl
    have XF : Hid (ModAt (w2.setRow (w.heap.size + 1) (resC (errD q)).toArray) X m) := X1.out.kept (hg.block _ X1.out.1.lt (by have := Hxl.out; simp; omega))
    have GF : Hid (Kept (fun k => k = X) w (w2.setRow (w.heap.size + 1) (resC (errD q)).toArray)) := HG1.out.trans (Kept.of_grown hg (fun k => k = (w.heap.size + 1)) (fun k hk => (Option.some.inj hk).symm)) (fun i hi e => by omega)
    clear hg
    go_wp2
    refine bodyPost_ret (v := .tuple #[resDV (errD q), .bool false]) (results_res2 rfl _ _ (w.heap.size + 1) (by rfl) (by rfl) HF.out) rfl ?_
    unfold DoPost
    rw [HP.out]
    exact ⟨rfl, XF.out, GF.out⟩
end Go.Proofs.YtfchfjipkggnkaaGreatDoor
