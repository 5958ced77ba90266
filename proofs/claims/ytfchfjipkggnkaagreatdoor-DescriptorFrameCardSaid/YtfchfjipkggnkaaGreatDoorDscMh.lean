/- Law 31: the model's do, kinds 8,9. (printed by wip/gen_dscme.py) -/
import Derived.Test.YtfchfjipkggnkaaGreatDoorDscMw
import Derived.Test.YtfchfjipkggnkaaGreatDoorDscCk
import Derived.Deep.QuietTactic
import Derived.BigQuiet
import Derived.IntWalk
import Derived.Deep.RegionHeld3
namespace Go.Proofs.YtfchfjipkggnkaaGreatDoor
open Go.RowKit
attribute [local go_sem ↓] run_eql_opn run_neq_opn Go.wp_at_zero Go.wp_at_succ
attribute [local go_sem ↓] bld_O bld_E bld_N bld_12 bld_13 bld_9 bld_21 bld_11 bld_2

set_option linter.unusedSimpArgs false in
set_option maxRecDepth 100000 in
set_option maxHeartbeats 25600000 in
theorem mdo_8 (kd who tw : Nat) (fd n okd : Int) (omak : ByteArray) (obn onum ooff : Int) (ord owr oap : Bool) (X : Nat) (m : ModD) (w : World) (hX : ModAt w X m) (hk : kd < 256) (hw : who < 256) (ht : tw < 256) (hd : -9223372036854775808 ≤ n ∧ n ≤ 9223372036854775807) (hmk : omak.size ≤ 70368744177664) (hTE : ∀ t ∈ m.tabs, tabE t = 0) (hm : kd % 11 = 8) :
    Calls Tryz.prog 21 #[.pointer (some ⟨X, 0, none⟩), .agg #[.int .u8 kd, .int .u8 who, .int .u8 tw, .int .i64 fd, .int .i64 n, .int .i64 okd, .string omak, .int .i64 obn, .int .i64 onum, .int .i64 ooff, .bool ord, .bool owr, .bool oap]] w (DoPost w X (mdo m ⟨kd, who, tw, fd, n, ⟨okd, omak, obn, onum, ooff, ord, owr, oap⟩⟩)) := by
  have HX : Hid (∀ W, Below w.heap.size w W → ModAt W X m) := fun W h => hX.later h
  have Hxl : Hid (X < w.heap.size) := hX.1.lt
  have HB0 : Hid (Below w.heap.size w ((w.alloc (.cells #[.int .u8 kd, .int .u8 who, .int .u8 tw, .int .i64 fd, .int .i64 n, .int .i64 okd, .string omak, .int .i64 obn, .int .i64 onum, .int .i64 ooff, .bool ord, .bool owr, .bool oap] 49)).alloc (.cells Tryz.zeroCells52 52))) := ((Below.refl _ _).alloc (Nat.le_refl _) _).alloc (by simp) _
  have B0 : Hid (RowIs ((w.alloc (.cells #[.int .u8 kd, .int .u8 who, .int .u8 tw, .int .i64 fd, .int .i64 n, .int .i64 okd, .string omak, .int .i64 obn, .int .i64 onum, .int .i64 ooff, .bool ord, .bool owr, .bool oap] 49)).alloc (.cells Tryz.zeroCells52 52)) w.heap.size 49 [.int .u8 kd, .int .u8 who, .int .u8 tw, .int .i64 fd, .int .i64 n, .int .i64 okd, .string omak, .int .i64 obn, .int .i64 onum, .int .i64 ooff, .bool ord, .bool owr, .bool oap]) := (new_row w 49 [.int .u8 kd, .int .u8 who, .int .u8 tw, .int .i64 fd, .int .i64 n, .int .i64 okd, .string omak, .int .i64 obn, .int .i64 onum, .int .i64 ooff, .bool ord, .bool owr, .bool oap]).later ((Below.refl _ _).alloc (Nat.le_refl _) _)
  have R0 : Hid (ResAt ((w.alloc (.cells #[.int .u8 kd, .int .u8 who, .int .u8 tw, .int .i64 fd, .int .i64 n, .int .i64 okd, .string omak, .int .i64 obn, .int .i64 onum, .int .i64 ooff, .bool ord, .bool owr, .bool oap] 49)).alloc (.cells Tryz.zeroCells52 52)) (w.heap.size + 1) (errD 0)) := by
    have := new_res (w.alloc (.cells #[.int .u8 kd, .int .u8 who, .int .u8 tw, .int .i64 fd, .int .i64 n, .int .i64 okd, .string omak, .int .i64 obn, .int .i64 onum, .int .i64 ooff, .bool ord, .bool owr, .bool oap] 49))
    rw [World.size_alloc] at this
    exact this
  have X0 := Lib.hid (HX.out _ HB0.out)
  obtain ⟨k, hk4⟩ : ∃ k : Nat, who % 4 = k := ⟨_, rfl⟩
  obtain ⟨i, hi4⟩ : ∃ i : Nat, tw % 4 = i := ⟨_, rfl⟩
  have HK : Hid (who % 4 = k ∧ k < 4) := ⟨hk4, by omega⟩
  have HI : Hid (tw % 4 = i ∧ i < 4) := ⟨hi4, by omega⟩
  have htk : (who : Int).tmod 4 = (k : Int) := by rw [Int.tmod_eq_emod_of_nonneg (by omega)]; omega
  have hti : (tw : Int).tmod 4 = (i : Int) := by rw [Int.tmod_eq_emod_of_nonneg (by omega)]; omega
  have k0 : (0 : Int) ≤ (k : Int) := by omega
  have k1 : (k : Int) < 4 := by omega
  have i0 : (0 : Int) ≤ (i : Int) := by omega
  have i1 : (i : Int) < 4 := by omega
  have Hd := Lib.hid hd
  have Hmk := Lib.hid hmk
  have HTE := Lib.hid hTE
  have hkn : (0 : Int) ≤ (kd : Int) := by omega
  have hkx : (kd : Int) ≤ 255 := by omega
  have hwn : (0 : Int) ≤ (who : Int) := by omega
  have hwx : (who : Int) ≤ 255 := by omega
  have htn : (0 : Int) ≤ (tw : Int) := by omega
  have htx : (tw : Int) ≤ 255 := by omega
  have HM := Lib.hid hm
  clear hd hmk hTE hk4 hi4 hX hm
  go_enter Tryz.func21, Tryz.ntmps21
  go_upto_region 1 with fail
  obtain ⟨w1, hw1⟩ : ∃ w1, ((w.alloc (.cells #[.int .u8 kd, .int .u8 who, .int .u8 tw, .int .i64 fd, .int .i64 n, .int .i64 okd, .string omak, .int .i64 obn, .int .i64 onum, .int .i64 ooff, .bool ord, .bool owr, .bool oap] 49)).alloc (.cells Tryz.zeroCells52 52)) = w1 := ⟨_, rfl⟩
  rw [hw1] at HB0 B0 R0 X0 ⊢
  clear hw1
  have b1 := B0.out.cell (i := 1) rfl
  have b2 := B0.out.cell (i := 2) rfl
  have hi64k : IntKind.i64.wrap (k : Int) = (k : Int) := IntWalk.i64_in _ (by omega)
  have hi64i : IntKind.i64.wrap (i : Int) = (i : Int) := IntWalk.i64_in _ (by omega)
  go_quiet (fail)
  clear b1 b2 htk hti hi64k hi64i
  have hbd : Below w1.heap.size w1 (w1.drewN nq) := ⟨rfl, rfl, rfl, Nat.le_refl _, fun _ _ => rfl⟩
  have HG1 : Hid (Kept (fun k => k = X) w (w1.drewN nq)) := Kept.of_below (HB0.out.trans (hbd.mono HB0.out.size)) _
  have B1 := Lib.hid (B0.out.later hbd)
  have R1 := Lib.hid (R0.out.later hbd)
  have X1 := Lib.hid (X0.out.later hbd)
  clear hbd HB0 B0 R0 X0
  generalize w1.drewN nq = w2 at *
  have hm := HM.out
  have hmi : (kd : Int) % 11 = 8 := by omega
  have HP0 : Hid (mdo m ⟨kd, who, tw, fd, n, ⟨okd, omak, obn, onum, ooff, ord, owr, oap⟩⟩ = mOne m k (moveF fd fun _ => n)) := by
    show _ = _
    rw [mD8 (o := ⟨kd, who, tw, fd, n, ⟨okd, omak, obn, onum, ooff, ord, owr, oap⟩⟩) hm]
    dsimp only
    rw [HK.out.1]
  clear HM hm
  have b0 := B1.out.cell (i := 0) rfl
  have b3 := B1.out.cell (i := 3) rfl
  have b4 := B1.out.cell (i := 4) rfl
  have HP1 := Lib.hid (HP0.out.trans (get_one m k fd (moveF fd (fun _ => n)) (fun t h => if_pos h)))
  clear HP0
  have HP0 := HP1
  clear HP1
  obtain ⟨q, hq⟩ : ∃ q, mGetE m k fd = q := ⟨_, rfl⟩
  have hc := mGet_any X1.out HK.out.2 fd
  rw [hq] at hc HP0
  have HC := Lib.hid hc
  have Hq := Lib.hid hq
  clear hc hq
  go_wp2_with fail
  refine HC.out.mono ?_
  rintro r w3 ⟨rfl, rfl⟩
  clear HC
  by_cases h0 : q = 0
  · subst h0
    obtain ⟨hth, hbd⟩ := mGet_ok Hq.out
    obtain ⟨f0, f1, hz⟩ := badD_no hbd
    obtain ⟨n0, rfl⟩ := Int.eq_ofNat_of_zero_le (show 0 ≤ fd by omega)
    have hn16 : n0 < 16 := by omega
    have Hn := Lib.hid hn16
    obtain ⟨x, hx⟩ := ent_some (X1.out.2.tl k) hn16
    have he : entD (mTab m k) (n0 : Int) = x := by unfold entD; rw [List.getD_eq_getElem?_getD, show ((n0 : Nat) : Int).toNat = n0 from rfl, hx]; rfl
    rw [he] at hz
    obtain ⟨ekd, emak, ebn, enum, eoff, erd, ewr, eap⟩ := x
    have Hx := Lib.hid hx
    have j0 : (0 : Int) ≤ (n0 : Int) := by omega
    have j1 : ((n0 : Nat) : Int) < 16 := by omega
    have Hoff : Hid (0 ≤ eoff ∧ eoff ≤ 4096) := (checkO_ok (tabE_mem (HTE.out _ (List.mem_of_getElem? (X1.out.2.tab HK.out.2))) _ (List.mem_of_getElem? hx) hz)).off
    have Hth := Lib.hid hth
    have HP1 : Hid (mdo m ⟨kd, who, tw, (n0 : Int), n, ⟨okd, omak, obn, onum, ooff, ord, owr, oap⟩⟩ = (mUpd m k (moveF (n0 : Int) (fun _ => n) (mTab m k)).2, (moveF (n0 : Int) (fun _ => n) (mTab m k)).1, (moveF (n0 : Int) (fun _ => n) (mTab m k)).2.isSome)) := HP0.out.trans (if_neg (by simp))
    have HF0 : Hid (moveF (n0 : Int) (fun _ => n) (mTab m k) = if ekd ≠ 1 then (errD 11, none) else if (fun _ => n) eoff < 0 ∨ 4096 < (fun _ => n) eoff then (errD 2, none) else if (fun _ => n) eoff = eoff then (errD 0, none) else (errD 0, some (some ((mTab m k).set n0 (atO ⟨ekd, emak, ebn, enum, eoff, erd, ewr, eap⟩ ((fun _ => n) eoff)))))) := by
      show _ = _
      unfold moveF
      rw [if_neg (by rw [hbd]; decide), he]
      rfl
    clear HP0 hz he hx hbd hth f0 f1 hn16
    go_upto_region 60 with fail
    clear b0 b3 b4
    have hbd : Below w2.heap.size w2 w2.drew := (Below.refl _ _).drew
    have B2 := Lib.hid (B1.out.later hbd)
    have R2 := Lib.hid (R1.out.later hbd)
    have X2 := Lib.hid (X1.out.later hbd)
    have HG2 : Hid (Kept (fun k => k = X) w w2.drew) := HG1.out.trans (Kept.of_below hbd (fun _ => False)) (fun _ _ h => h.elim)
    clear hbd B1 R1 X1 HG1
    refine wp_region_held_drew (S := (fun W => RowIs W w.heap.size 49 [.int .u8 kd, .int .u8 who, .int .u8 tw, .int .i64 (n0 : Int), .int .i64 n, .int .i64 okd, .string omak, .int .i64 obn, .int .i64 onum, .int .i64 ooff, .bool ord, .bool owr, .bool oap] ∧ ModAt W X m)) (by kernel_rfl) (⟨B2.out, X2.out⟩) (fun hHeld0 => ?_)
    obtain ⟨wv, hwn⟩ : ∃ x, w2.drew = x := ⟨_, rfl⟩
    rw [hwn] at B2 R2 X2 HG2 hHeld0 ⊢
    clear hwn
    refine wpAnyH_take (i := 0) (v := ?_) rfl (by kernel_rfl) (by kernel_rfl) (by kernel_rfl) (fun _ _ _ h => h) (Or.inl ⟨by rfl, ?_⟩) (by assumption) ?_
    rotate_left
    · (intro wx hSw; (try dsimp only at hSw); go_simp <;> with_reducible rfl)
    try simp only [Act.put, List.setIfInBounds_toArray, List.set_cons_zero, List.set_cons_succ, List.getElem_toArray, List.getElem_cons_zero, List.getElem_cons_succ]
    refine wpAnyH_take (i := 1) (v := ?_) rfl (by kernel_rfl) (by kernel_rfl) (by kernel_rfl) (fun _ _ _ h => h) (Or.inl ⟨by rfl, ?_⟩) (by assumption) ?_
    rotate_left
    · (intro wx hSw; (try dsimp only at hSw); go_simp <;> with_reducible rfl)
    try simp only [Act.put, List.setIfInBounds_toArray, List.set_cons_zero, List.set_cons_succ, List.getElem_toArray, List.getElem_cons_zero, List.getElem_cons_succ]
    refine wpAnyH_take (i := 2) (v := ?_) rfl (by kernel_rfl) (by kernel_rfl) (by kernel_rfl) (fun _ _ _ h => h) (Or.inl ⟨by rfl, ?_⟩) (by assumption) ?_
    rotate_left
    · (intro wx hSw; (try dsimp only at hSw); go_simp <;> with_reducible rfl)
    try simp only [Act.put, List.setIfInBounds_toArray, List.set_cons_zero, List.set_cons_succ, List.getElem_toArray, List.getElem_cons_zero, List.getElem_cons_succ]
    refine wpAnyH_take (i := 3) (v := ?_) rfl (by kernel_rfl) (by kernel_rfl) (by kernel_rfl) (fun _ _ _ h => h) (Or.inl ⟨by rfl, ?_⟩) (by assumption) ?_
    rotate_left
    · (intro wx hSw; (try dsimp only at hSw); have c3 := hSw.1.cell (i := 3) rfl; go_simp <;> with_reducible rfl)
    try simp only [Act.put, List.setIfInBounds_toArray, List.set_cons_zero, List.set_cons_succ, List.getElem_toArray, List.getElem_cons_zero, List.getElem_cons_succ]
    refine wpAnyH_take (i := 4) (v := ?_) rfl (by kernel_rfl) (by kernel_rfl) (by kernel_rfl) (fun _ _ _ h => h) (Or.inl ⟨by rfl, ?_⟩) (by assumption) ?_
    rotate_left
    · (intro wx hSw; (try dsimp only at hSw); go_simp <;> with_reducible rfl)
    try simp only [Act.put, List.setIfInBounds_toArray, List.set_cons_zero, List.set_cons_succ, List.getElem_toArray, List.getElem_cons_zero, List.getElem_cons_succ]
    refine wpAnyH_take (i := 5) (v := ?_) rfl (by kernel_rfl) (by kernel_rfl) (by kernel_rfl) (fun _ _ _ h => h) (Or.inl ⟨by rfl, ?_⟩) (by assumption) ?_
    rotate_left
    · (intro wx hSw; (try dsimp only at hSw); go_simp <;> with_reducible rfl)
    try simp only [Act.put, List.setIfInBounds_toArray, List.set_cons_zero, List.set_cons_succ, List.getElem_toArray, List.getElem_cons_zero, List.getElem_cons_succ]
    refine wpAnyH_take (i := 6) (v := ?_) rfl (by kernel_rfl) (by kernel_rfl) (by kernel_rfl) (fun _ _ _ h => h) (Or.inl ⟨by rfl, ?_⟩) (by assumption) ?_
    rotate_left
    · (intro wx hSw; (try dsimp only at hSw); go_simp <;> with_reducible rfl)
    try simp only [Act.put, List.setIfInBounds_toArray, List.set_cons_zero, List.set_cons_succ, List.getElem_toArray, List.getElem_cons_zero, List.getElem_cons_succ]
    refine wpAnyH_take (i := 7) (v := ?_) rfl (by kernel_rfl) (by kernel_rfl) (by kernel_rfl) (fun _ _ _ h => h) (Or.inl ⟨by rfl, ?_⟩) (by assumption) ?_
    rotate_left
    · (intro wx hSw; (try dsimp only at hSw); go_simp <;> with_reducible rfl)
    try simp only [Act.put, List.setIfInBounds_toArray, List.set_cons_zero, List.set_cons_succ, List.getElem_toArray, List.getElem_cons_zero, List.getElem_cons_succ]
    refine wpAnyH_take (i := 8) (v := ?_) rfl (by kernel_rfl) (by kernel_rfl) (by kernel_rfl) (fun _ _ _ h => h) (Or.inl ⟨by rfl, ?_⟩) (by assumption) ?_
    rotate_left
    · (intro wx hSw; (try dsimp only at hSw); have z0 : wx.cell? ⟨X, k * 128 + n0 * 8, none⟩ = some (.int .i64 ekd) := hSw.2.ent HK.out.2 Hx.out (j := 0) rfl; have z1 : wx.cell? ⟨X, k * 128 + n0 * 8 + 1, none⟩ = some (.string emak) := hSw.2.ent HK.out.2 Hx.out (j := 1) rfl; have z2 : wx.cell? ⟨X, k * 128 + n0 * 8 + 2, none⟩ = some (.int .i64 ebn) := hSw.2.ent HK.out.2 Hx.out (j := 2) rfl; have z3 : wx.cell? ⟨X, k * 128 + n0 * 8 + 3, none⟩ = some (.int .i64 enum) := hSw.2.ent HK.out.2 Hx.out (j := 3) rfl; have z4 : wx.cell? ⟨X, k * 128 + n0 * 8 + 4, none⟩ = some (.int .i64 eoff) := hSw.2.ent HK.out.2 Hx.out (j := 4) rfl; have z5 : wx.cell? ⟨X, k * 128 + n0 * 8 + 5, none⟩ = some (.bool erd) := hSw.2.ent HK.out.2 Hx.out (j := 5) rfl; have z6 : wx.cell? ⟨X, k * 128 + n0 * 8 + 6, none⟩ = some (.bool ewr) := hSw.2.ent HK.out.2 Hx.out (j := 6) rfl; have z7 : wx.cell? ⟨X, k * 128 + n0 * 8 + 7, none⟩ = some (.bool eap) := hSw.2.ent HK.out.2 Hx.out (j := 7) rfl; go_simp <;> with_reducible rfl)
    try simp only [Act.put, List.setIfInBounds_toArray, List.set_cons_zero, List.set_cons_succ, List.getElem_toArray, List.getElem_cons_zero, List.getElem_cons_succ]
    refine wpAnyH_ready (rs := [9]) (by kernel_rfl) (by simp) ?_
    refine AllReadyH.cons rfl (fun K hK => ?_) AllReadyH.nil
    have hb : Below wv.heap.size wv (wv.alloc (.cells #[.int .i64 0, .string ⟨#[]⟩, .int .i64 0, .int .i64 0, .int .i64 0, .bool false, .bool false, .bool false] 34)) := (Below.refl _ _).alloc (Nat.le_refl _) _
    have B3 := Lib.hid (B2.out.later hb)
    have R3 := Lib.hid (R2.out.later hb)
    have X3 := Lib.hid (X2.out.later hb)
    have HG3 : Hid (Kept (fun k => k = X) w (wv.alloc (.cells #[.int .i64 0, .string ⟨#[]⟩, .int .i64 0, .int .i64 0, .int .i64 0, .bool false, .bool false, .bool false] 34))) := HG2.out.trans (Kept.of_below hb (fun _ => False)) (fun _ _ h => h.elim)
    have Y3 : Hid (OpnAt (wv.alloc (.cells #[.int .i64 0, .string ⟨#[]⟩, .int .i64 0, .int .i64 0, .int .i64 0, .bool false, .bool false, .bool false] 34)) wv.heap.size ⟨0, ⟨#[]⟩, 0, 0, 0, false, false, false⟩) := World.alloc_heap_new wv _
    have HY : Hid (w.heap.size + 1 < wv.heap.size ∧ X < wv.heap.size) := ⟨R2.out.1.lt, X2.out.1.lt⟩
    clear hb
    go_simp
    refine hK.out _ _ (⟨B3.out, X3.out⟩) (fun hHeld1 => ?_)
    clear hK K hHeld0
    try simp only [Act.put, List.setIfInBounds_toArray, List.set_cons_zero, List.set_cons_succ, List.getElem_toArray, List.getElem_cons_zero, List.getElem_cons_succ]
    refine wpAnyH_ready (rs := [10]) (by kernel_rfl) (by simp) ?_
    refine AllReadyH.cons rfl (fun K hK => ?_) AllReadyH.nil
    obtain ⟨Y, hY⟩ : ∃ Y, wv.heap.size = Y := ⟨_, rfl⟩
    rw [hY] at Y3 HY ⊢
    obtain ⟨w4, hwn⟩ : ∃ x, (wv.alloc (.cells #[.int .i64 0, .string ⟨#[]⟩, .int .i64 0, .int .i64 0, .int .i64 0, .bool false, .bool false, .bool false] 34)) = x := ⟨_, rfl⟩
    rw [hwn] at B3 R3 X3 HG3 Y3 hHeld1 ⊢
    clear hwn
    clear hY
    obtain ⟨d0, d1, d2, d3, d4, d5, d6, d7⟩ := Y3.out.cells
    have q0 := Y3.out.free 0
    have q1 := Y3.out.free 1
    have q2 := Y3.out.free 2
    have q3 := Y3.out.free 3
    have q4 := Y3.out.free 4
    have q5 := Y3.out.free 5
    have q6 := Y3.out.free 6
    have q7 := Y3.out.free 7
    have hg : w4.grownBy ((((((((w4.setCell ⟨Y, 0, none⟩ (.int .i64 ekd)).setCell ⟨Y, 1, none⟩ (.string emak)).setCell ⟨Y, 2, none⟩ (.int .i64 ebn)).setCell ⟨Y, 3, none⟩ (.int .i64 enum)).setCell ⟨Y, 4, none⟩ (.int .i64 eoff)).setCell ⟨Y, 5, none⟩ (.bool erd)).setCell ⟨Y, 6, none⟩ (.bool ewr)).setCell ⟨Y, 7, none⟩ (.bool eap)) (some Y) := grown_set8 _ _ _ _ _ _ _ _ _ _ _ _ _ _ _ _ _ _
    have B4 := Lib.hid (B3.out.kept (hg.block _ B3.out.lt (by have := HY.out.1; simp; omega)))
    have R4 := Lib.hid (R3.out.kept (hg.block _ R3.out.1.lt (by have := HY.out.1; simp; omega)))
    have X4 := Lib.hid (X3.out.kept (hg.block _ X3.out.1.lt (by have := HY.out.2; simp; omega)))
    have HG4 : Hid (Kept (fun k => k = X) w ((((((((w4.setCell ⟨Y, 0, none⟩ (.int .i64 ekd)).setCell ⟨Y, 1, none⟩ (.string emak)).setCell ⟨Y, 2, none⟩ (.int .i64 ebn)).setCell ⟨Y, 3, none⟩ (.int .i64 enum)).setCell ⟨Y, 4, none⟩ (.int .i64 eoff)).setCell ⟨Y, 5, none⟩ (.bool erd)).setCell ⟨Y, 6, none⟩ (.bool ewr)).setCell ⟨Y, 7, none⟩ (.bool eap))) := HG3.out.trans (Kept.of_grown hg (fun k => k = Y) (fun k hk => (Option.some.inj hk).symm)) (fun i hi e => by have := HY.out.1; omega)
    have Y4 : Hid (OpnAt ((((((((w4.setCell ⟨Y, 0, none⟩ (.int .i64 ekd)).setCell ⟨Y, 1, none⟩ (.string emak)).setCell ⟨Y, 2, none⟩ (.int .i64 ebn)).setCell ⟨Y, 3, none⟩ (.int .i64 enum)).setCell ⟨Y, 4, none⟩ (.int .i64 eoff)).setCell ⟨Y, 5, none⟩ (.bool erd)).setCell ⟨Y, 6, none⟩ (.bool ewr)).setCell ⟨Y, 7, none⟩ (.bool eap)) Y ⟨ekd, emak, ebn, enum, eoff, erd, ewr, eap⟩) := opn_stored Y3.out ⟨ekd, emak, ebn, enum, eoff, erd, ewr, eap⟩
    clear hg
    go_simp
    refine hK.out _ _ (⟨B4.out, X4.out⟩) (fun hHeld2 => ?_)
    clear hK K hHeld1
    try simp only [Act.put, List.setIfInBounds_toArray, List.set_cons_zero, List.set_cons_succ, List.getElem_toArray, List.getElem_cons_zero, List.getElem_cons_succ]
    refine wpAnyH_done (by kernel_rfl) ?_ _
    clear d0 d1 d2 d3 d4 d5 d6 d7 q0 q1 q2 q3 q4 q5 q6 q7 B2 R2 X2 HG2 B3 R3 X3 HG3 Y3
    go_upto_region 61 with fail
    obtain ⟨w5, hwn⟩ : ∃ x, ((((((((w4.setCell ⟨Y, 0, none⟩ (.int .i64 ekd)).setCell ⟨Y, 1, none⟩ (.string emak)).setCell ⟨Y, 2, none⟩ (.int .i64 ebn)).setCell ⟨Y, 3, none⟩ (.int .i64 enum)).setCell ⟨Y, 4, none⟩ (.int .i64 eoff)).setCell ⟨Y, 5, none⟩ (.bool erd)).setCell ⟨Y, 6, none⟩ (.bool ewr)).setCell ⟨Y, 7, none⟩ (.bool eap)) = x := ⟨_, rfl⟩
    rw [hwn] at B4 R4 X4 HG4 Y4 ⊢
    clear hwn
    have b0 := B4.out.cell (i := 0) rfl
    obtain ⟨d0, d1, d2, d3, d4, d5, d6, d7⟩ := Y4.out.cells
    by_cases hk1 : ekd = 1
    · subst hk1
      by_cases n1 : n < -10000
      · have HP : Hid (mdo m ⟨kd, who, tw, (n0 : Int), n, ⟨okd, omak, obn, onum, ooff, ord, owr, oap⟩⟩ = (m, errD 2, false)) := by
          refine HP1.out.trans ?_
          rw [HF0.out, if_neg (by simp), if_pos (by left; omega)]
          rfl
        clear HP1 HF0
        have hst := R4.out.store (r' := (errD 2)) rfl
        have hsz : (resC (errD 2)).toArray.size = 138 := by rw [List.size_toArray, resC_len rfl]
        have hg : w5.grownBy (w5.setRow (w.heap.size + 1) (resC (errD 2)).toArray) (some (w.heap.size + 1)) := grown_setRow _ _ _
        have HF : Hid (ResAt (w5.setRow (w.heap.size + 1) (resC (errD 2)).toArray) (w.heap.size + 1) (errD 2)) := R4.out.setRow rfl
        have XF : Hid (ModAt (w5.setRow (w.heap.size + 1) (resC (errD 2)).toArray) X m) := X4.out.kept (hg.block _ X4.out.1.lt (by have := Hxl.out; simp; omega))
        have GF : Hid (Kept (fun k => k = X) w (w5.setRow (w.heap.size + 1) (resC (errD 2)).toArray)) := HG4.out.trans (Kept.of_grown hg (fun k => k = (w.heap.size + 1)) (fun k hk => (Option.some.inj hk).symm)) (fun i hi e => by omega)
        clear hg
        go_wp2
        refine bodyPost_ret (v := .tuple #[resDV (errD 2), .bool false]) (results_res2 rfl _ _ (w.heap.size + 1) (by rfl) (by rfl) HF.out) rfl ?_
        unfold DoPost
        rw [HP.out]
        exact ⟨rfl, XF.out, GF.out⟩
      by_cases n2 : 10000 < n
      · have HP : Hid (mdo m ⟨kd, who, tw, (n0 : Int), n, ⟨okd, omak, obn, onum, ooff, ord, owr, oap⟩⟩ = (m, errD 2, false)) := by
          refine HP1.out.trans ?_
          rw [HF0.out, if_neg (by simp), if_pos (by right; omega)]
          rfl
        clear HP1 HF0
        have hst := R4.out.store (r' := (errD 2)) rfl
        have hsz : (resC (errD 2)).toArray.size = 138 := by rw [List.size_toArray, resC_len rfl]
        have hg : w5.grownBy (w5.setRow (w.heap.size + 1) (resC (errD 2)).toArray) (some (w.heap.size + 1)) := grown_setRow _ _ _
        have HF : Hid (ResAt (w5.setRow (w.heap.size + 1) (resC (errD 2)).toArray) (w.heap.size + 1) (errD 2)) := R4.out.setRow rfl
        have XF : Hid (ModAt (w5.setRow (w.heap.size + 1) (resC (errD 2)).toArray) X m) := X4.out.kept (hg.block _ X4.out.1.lt (by have := Hxl.out; simp; omega))
        have GF : Hid (Kept (fun k => k = X) w (w5.setRow (w.heap.size + 1) (resC (errD 2)).toArray)) := HG4.out.trans (Kept.of_grown hg (fun k => k = (w.heap.size + 1)) (fun k hk => (Option.some.inj hk).symm)) (fun i hi e => by omega)
        clear hg
        go_wp2
        refine bodyPost_ret (v := .tuple #[resDV (errD 2), .bool false]) (results_res2 rfl _ _ (w.heap.size + 1) (by rfl) (by rfl) HF.out) rfl ?_
        unfold DoPost
        rw [HP.out]
        exact ⟨rfl, XF.out, GF.out⟩
      by_cases n3 : n < 0
      · have HP : Hid (mdo m ⟨kd, who, tw, (n0 : Int), n, ⟨okd, omak, obn, onum, ooff, ord, owr, oap⟩⟩ = (m, errD 2, false)) := by
          refine HP1.out.trans ?_
          rw [HF0.out, if_neg (by simp), if_pos (by left; exact n3)]
          rfl
        clear HP1 HF0
        have hst := R4.out.store (r' := (errD 2)) rfl
        have hsz : (resC (errD 2)).toArray.size = 138 := by rw [List.size_toArray, resC_len rfl]
        have hg : w5.grownBy (w5.setRow (w.heap.size + 1) (resC (errD 2)).toArray) (some (w.heap.size + 1)) := grown_setRow _ _ _
        have HF : Hid (ResAt (w5.setRow (w.heap.size + 1) (resC (errD 2)).toArray) (w.heap.size + 1) (errD 2)) := R4.out.setRow rfl
        have XF : Hid (ModAt (w5.setRow (w.heap.size + 1) (resC (errD 2)).toArray) X m) := X4.out.kept (hg.block _ X4.out.1.lt (by have := Hxl.out; simp; omega))
        have GF : Hid (Kept (fun k => k = X) w (w5.setRow (w.heap.size + 1) (resC (errD 2)).toArray)) := HG4.out.trans (Kept.of_grown hg (fun k => k = (w.heap.size + 1)) (fun k hk => (Option.some.inj hk).symm)) (fun i hi e => by omega)
        clear hg
        go_wp2
        refine bodyPost_ret (v := .tuple #[resDV (errD 2), .bool false]) (results_res2 rfl _ _ (w.heap.size + 1) (by rfl) (by rfl) HF.out) rfl ?_
        unfold DoPost
        rw [HP.out]
        exact ⟨rfl, XF.out, GF.out⟩
      by_cases n4 : 4096 < n
      · have HP : Hid (mdo m ⟨kd, who, tw, (n0 : Int), n, ⟨okd, omak, obn, onum, ooff, ord, owr, oap⟩⟩ = (m, errD 2, false)) := by
          refine HP1.out.trans ?_
          rw [HF0.out, if_neg (by simp), if_pos (by right; exact n4)]
          rfl
        clear HP1 HF0
        have hst := R4.out.store (r' := (errD 2)) rfl
        have hsz : (resC (errD 2)).toArray.size = 138 := by rw [List.size_toArray, resC_len rfl]
        have hg : w5.grownBy (w5.setRow (w.heap.size + 1) (resC (errD 2)).toArray) (some (w.heap.size + 1)) := grown_setRow _ _ _
        have HF : Hid (ResAt (w5.setRow (w.heap.size + 1) (resC (errD 2)).toArray) (w.heap.size + 1) (errD 2)) := R4.out.setRow rfl
        have XF : Hid (ModAt (w5.setRow (w.heap.size + 1) (resC (errD 2)).toArray) X m) := X4.out.kept (hg.block _ X4.out.1.lt (by have := Hxl.out; simp; omega))
        have GF : Hid (Kept (fun k => k = X) w (w5.setRow (w.heap.size + 1) (resC (errD 2)).toArray)) := HG4.out.trans (Kept.of_grown hg (fun k => k = (w.heap.size + 1)) (fun k hk => (Option.some.inj hk).symm)) (fun i hi e => by omega)
        clear hg
        go_wp2
        refine bodyPost_ret (v := .tuple #[resDV (errD 2), .bool false]) (results_res2 rfl _ _ (w.heap.size + 1) (by rfl) (by rfl) HF.out) rfl ?_
        unfold DoPost
        rw [HP.out]
        exact ⟨rfl, XF.out, GF.out⟩
      have HP : Hid (mdo m ⟨kd, who, tw, (n0 : Int), n, ⟨okd, omak, obn, onum, ooff, ord, owr, oap⟩⟩ = (⟨m.tabs.set k ((mTab m k).set n0 (atO ⟨1, emak, ebn, enum, eoff, erd, ewr, eap⟩ n)), m.there⟩, errD 0, (n != eoff))) := by
        refine HP1.out.trans ?_
        rw [HF0.out, if_neg (by simp), if_neg (by omega)]
        by_cases hq0 : n = eoff
        · rw [if_pos hq0]
          have := set_self X4.out.2 HK.out.2 Hx.out
          have e1 : atO ⟨1, emak, ebn, enum, eoff, erd, ewr, eap⟩ n = ⟨1, emak, ebn, enum, eoff, erd, ewr, eap⟩ := by unfold atO; rw [hq0]
          rw [e1, this, hq0]
          simp [mUpd]
        · rw [if_neg hq0]
          dsimp only
          rw [upd_there X4.out.2 HK.out.2 Hth.out]
          have e2 : (n != eoff) = true := bne_iff_ne.2 hq0
          rw [e2]
          rfl
      clear HP1 HF0
      obtain ⟨bb, hbb⟩ : ∃ bb, (n != eoff) = bb := ⟨_, rfl⟩
      rw [hbb] at HP
      have Hbb := Lib.hid hbb
      clear hbb
      go_upto_region 79 with fail
      clear d0 d1 d2 d3 d4 d5 d6 d7 b0
      have Y5 : Hid (OpnAt w5.drew Y ⟨1, emak, ebn, enum, eoff, erd, ewr, eap⟩) := Y4.out
      have hbd : Below w5.heap.size w5 w5.drew := (Below.refl _ _).drew
      have B5 := Lib.hid (B4.out.later hbd)
      have R5 := Lib.hid (R4.out.later hbd)
      have X5 := Lib.hid (X4.out.later hbd)
      have HG5 : Hid (Kept (fun k => k = X) w w5.drew) := HG4.out.trans (Kept.of_below hbd (fun _ => False)) (fun _ _ h => h.elim)
      clear hbd B4 R4 X4 HG4
      refine wp_region_held_drew (S := (fun W => RowIs W w.heap.size 49 [.int .u8 kd, .int .u8 who, .int .u8 tw, .int .i64 (n0 : Int), .int .i64 n, .int .i64 okd, .string omak, .int .i64 obn, .int .i64 onum, .int .i64 ooff, .bool ord, .bool owr, .bool oap])) (by kernel_rfl) (B5.out) (fun hHeld0 => ?_)
      obtain ⟨wv, hwn⟩ : ∃ x, w5.drew = x := ⟨_, rfl⟩
      rw [hwn] at B5 R5 X5 HG5 Y5 hHeld0 ⊢
      clear hwn
      refine wpAnyH_take (i := 0) (v := ?_) rfl (by kernel_rfl) (by kernel_rfl) (by kernel_rfl) (fun _ _ _ h => h) (Or.inl ⟨by rfl, ?_⟩) (by assumption) ?_
      rotate_left
      · (intro wx hSw; (try dsimp only at hSw); go_simp <;> with_reducible rfl)
      try simp only [Act.put, List.setIfInBounds_toArray, List.set_cons_zero, List.set_cons_succ, List.getElem_toArray, List.getElem_cons_zero, List.getElem_cons_succ]
      refine wpAnyH_take (i := 1) (v := ?_) rfl (by kernel_rfl) (by kernel_rfl) (by kernel_rfl) (fun _ _ _ h => h) (Or.inl ⟨by rfl, ?_⟩) (by assumption) ?_
      rotate_left
      · (intro wx hSw; (try dsimp only at hSw); go_simp <;> with_reducible rfl)
      try simp only [Act.put, List.setIfInBounds_toArray, List.set_cons_zero, List.set_cons_succ, List.getElem_toArray, List.getElem_cons_zero, List.getElem_cons_succ]
      refine wpAnyH_take (i := 2) (v := ?_) rfl (by kernel_rfl) (by kernel_rfl) (by kernel_rfl) (fun _ _ _ h => h) (Or.inl ⟨by rfl, ?_⟩) (by assumption) ?_
      rotate_left
      · (intro wx hSw; (try dsimp only at hSw); go_simp <;> with_reducible rfl)
      try simp only [Act.put, List.setIfInBounds_toArray, List.set_cons_zero, List.set_cons_succ, List.getElem_toArray, List.getElem_cons_zero, List.getElem_cons_succ]
      refine wpAnyH_take (i := 3) (v := ?_) rfl (by kernel_rfl) (by kernel_rfl) (by kernel_rfl) (fun _ _ _ h => h) (Or.inl ⟨by rfl, ?_⟩) (by assumption) ?_
      rotate_left
      · (intro wx hSw; (try dsimp only at hSw); have c3 := hSw.cell (i := 3) rfl; go_simp <;> with_reducible rfl)
      try simp only [Act.put, List.setIfInBounds_toArray, List.set_cons_zero, List.set_cons_succ, List.getElem_toArray, List.getElem_cons_zero, List.getElem_cons_succ]
      refine wpAnyH_take (i := 4) (v := ?_) rfl (by kernel_rfl) (by kernel_rfl) (by kernel_rfl) (fun _ _ _ h => h) (Or.inl ⟨by rfl, ?_⟩) (by assumption) ?_
      rotate_left
      · (intro wx hSw; (try dsimp only at hSw); go_simp <;> with_reducible rfl)
      try simp only [Act.put, List.setIfInBounds_toArray, List.set_cons_zero, List.set_cons_succ, List.getElem_toArray, List.getElem_cons_zero, List.getElem_cons_succ]
      refine wpAnyH_take (i := 5) (v := ?_) rfl (by kernel_rfl) (by kernel_rfl) (by kernel_rfl) (fun _ _ _ h => h) (Or.inl ⟨by rfl, ?_⟩) (by assumption) ?_
      rotate_left
      · (intro wx hSw; (try dsimp only at hSw); go_simp <;> with_reducible rfl)
      try simp only [Act.put, List.setIfInBounds_toArray, List.set_cons_zero, List.set_cons_succ, List.getElem_toArray, List.getElem_cons_zero, List.getElem_cons_succ]
      refine wpAnyH_take (i := 6) (v := ?_) rfl (by kernel_rfl) (by kernel_rfl) (by kernel_rfl) (fun _ _ _ h => h) (Or.inl ⟨by rfl, ?_⟩) (by assumption) ?_
      rotate_left
      · (intro wx hSw; (try dsimp only at hSw); go_simp <;> with_reducible rfl)
      try simp only [Act.put, List.setIfInBounds_toArray, List.set_cons_zero, List.set_cons_succ, List.getElem_toArray, List.getElem_cons_zero, List.getElem_cons_succ]
      refine wpAnyH_take (i := 7) (v := ?_) rfl (by kernel_rfl) (by kernel_rfl) (by kernel_rfl) (fun _ _ _ h => h) (Or.inl ⟨by rfl, ?_⟩) (by assumption) ?_
      rotate_left
      · (intro wx hSw; (try dsimp only at hSw); go_simp <;> with_reducible rfl)
      try simp only [Act.put, List.setIfInBounds_toArray, List.set_cons_zero, List.set_cons_succ, List.getElem_toArray, List.getElem_cons_zero, List.getElem_cons_succ]
      refine wpAnyH_take (i := 8) (v := ?_) rfl (by kernel_rfl) (by kernel_rfl) (by kernel_rfl) (fun _ _ _ h => h) (Or.inl ⟨by rfl, ?_⟩) (by assumption) ?_
      rotate_left
      · (intro wx hSw; (try dsimp only at hSw); go_simp <;> with_reducible rfl)
      try simp only [Act.put, List.setIfInBounds_toArray, List.set_cons_zero, List.set_cons_succ, List.getElem_toArray, List.getElem_cons_zero, List.getElem_cons_succ]
      refine wpAnyH_take (i := 9) (v := ?_) rfl (by kernel_rfl) (by kernel_rfl) (by kernel_rfl) (fun _ _ _ h => h) (Or.inl ⟨by rfl, ?_⟩) (by assumption) ?_
      rotate_left
      · (intro wx hSw; (try dsimp only at hSw); go_simp <;> with_reducible rfl)
      try simp only [Act.put, List.setIfInBounds_toArray, List.set_cons_zero, List.set_cons_succ, List.getElem_toArray, List.getElem_cons_zero, List.getElem_cons_succ]
      refine wpAnyH_ready (rs := [10]) (by kernel_rfl) (by simp) ?_
      refine AllReadyH.cons rfl (fun K hK => ?_) AllReadyH.nil
      have y4 : wv.cell? ⟨X, k * 128 + n0 * 8 + 4, none⟩ = some (.int .i64 eoff) := X5.out.ent HK.out.2 Hx.out (j := 4) rfl
      have yf4 := X5.out.free (k * 128 + n0 * 8 + 4)
      have hgy : wv.grownBy (wv.setCell ⟨X, k * 128 + n0 * 8 + 4, none⟩ (.int .i64 n)) (some X) := grown_setCell _ _ _ _
      have Y6 : Hid (OpnAt (wv.setCell ⟨X, k * 128 + n0 * 8 + 4, none⟩ (.int .i64 n)) Y ⟨1, emak, ebn, enum, eoff, erd, ewr, eap⟩) := (hgy.block _ (lt_of_heap Y5.out) (by have := HY.out.2; simp; omega)).trans Y5.out
      clear hgy
      have hg : wv.grownBy (wv.setCell ⟨X, k * 128 + n0 * 8 + 4, none⟩ (.int .i64 n)) (some X) := grown_setCell _ _ _ _
      have B6 := Lib.hid (B5.out.kept (hg.block _ B5.out.lt (by have := Hxl.out; simp; omega)))
      have R6 := Lib.hid (R5.out.kept (hg.block _ R5.out.1.lt (by have := Hxl.out; simp; omega)))
      have X6 : Hid (ModAt (wv.setCell ⟨X, k * 128 + n0 * 8 + 4, none⟩ (.int .i64 n)) X ⟨m.tabs.set k ((mTab m k).set n0 (atO ⟨1, emak, ebn, enum, eoff, erd, ewr, eap⟩ n)), m.there⟩) := X5.out.setOff HK.out.2 Hx.out _
      have HG6 : Hid (Kept (fun k => k = X) w (wv.setCell ⟨X, k * 128 + n0 * 8 + 4, none⟩ (.int .i64 n))) := HG5.out.trans (Kept.of_grown hg (fun k => k = X) (fun k hk => (Option.some.inj hk).symm)) (fun _ _ h => h)
      clear hg
      go_simp
      refine hK.out _ _ (B6.out) (fun hHeld1 => ?_)
      clear hK K hHeld0
      try simp only [Act.put, List.setIfInBounds_toArray, List.set_cons_zero, List.set_cons_succ, List.getElem_toArray, List.getElem_cons_zero, List.getElem_cons_succ]
      refine wpAnyH_done (by kernel_rfl) ?_ _
      clear y4 yf4 B5 R5 X5 HG5 Y5
      go_upto_region 80 with fail
      obtain ⟨w6, hwn⟩ : ∃ x, (wv.setCell ⟨X, k * 128 + n0 * 8 + 4, none⟩ (.int .i64 n)) = x := ⟨_, rfl⟩
      rw [hwn] at B6 R6 X6 HG6 Y6 ⊢
      clear hwn
      have Y7 : Hid (OpnAt w6.drew Y ⟨1, emak, ebn, enum, eoff, erd, ewr, eap⟩) := Y6.out
      have hbd : Below w6.heap.size w6 w6.drew := (Below.refl _ _).drew
      have B7 := Lib.hid (B6.out.later hbd)
      have R7 := Lib.hid (R6.out.later hbd)
      have X7 := Lib.hid (X6.out.later hbd)
      have HG7 : Hid (Kept (fun k => k = X) w w6.drew) := HG6.out.trans (Kept.of_below hbd (fun _ => False)) (fun _ _ h => h.elim)
      clear hbd B6 R6 X6 HG6
      refine wp_region_held_drew (S := (fun W => OpnAt W Y ⟨1, emak, ebn, enum, eoff, erd, ewr, eap⟩)) (by kernel_rfl) (Y7.out) (fun hHeld0 => ?_)
      obtain ⟨wv, hwn⟩ : ∃ x, w6.drew = x := ⟨_, rfl⟩
      rw [hwn] at B7 R7 X7 HG7 Y7 hHeld0 ⊢
      clear hwn
      refine wpAnyH_take (i := 0) (v := ?_) rfl (by kernel_rfl) (by kernel_rfl) (by kernel_rfl) (fun _ _ _ h => h) (Or.inl ⟨by rfl, ?_⟩) (by assumption) ?_
      rotate_left
      · (intro wx hSw; (try dsimp only at hSw); go_simp <;> with_reducible rfl)
      try simp only [Act.put, List.setIfInBounds_toArray, List.set_cons_zero, List.set_cons_succ, List.getElem_toArray, List.getElem_cons_zero, List.getElem_cons_succ]
      refine wpAnyH_take (i := 1) (v := ?_) rfl (by kernel_rfl) (by kernel_rfl) (by kernel_rfl) (fun _ _ _ h => h) (Or.inl ⟨by rfl, ?_⟩) (by assumption) ?_
      rotate_left
      · (intro wx hSw; (try dsimp only at hSw); go_simp <;> with_reducible rfl)
      try simp only [Act.put, List.setIfInBounds_toArray, List.set_cons_zero, List.set_cons_succ, List.getElem_toArray, List.getElem_cons_zero, List.getElem_cons_succ]
      refine wpAnyH_take (i := 2) (v := ?_) rfl (by kernel_rfl) (by kernel_rfl) (by kernel_rfl) (fun _ _ _ h => h) (Or.inl ⟨by rfl, ?_⟩) (by assumption) ?_
      rotate_left
      · (intro wx hSw; (try dsimp only at hSw); go_simp <;> with_reducible rfl)
      try simp only [Act.put, List.setIfInBounds_toArray, List.set_cons_zero, List.set_cons_succ, List.getElem_toArray, List.getElem_cons_zero, List.getElem_cons_succ]
      refine wpAnyH_take (i := 3) (v := ?_) rfl (by kernel_rfl) (by kernel_rfl) (by kernel_rfl) (fun _ _ _ h => h) (Or.inl ⟨by rfl, ?_⟩) (by assumption) ?_
      rotate_left
      · (intro wx hSw; (try dsimp only at hSw); obtain ⟨d0, d1, d2, d3, d4, d5, d6, d7⟩ := hSw.cells; go_simp <;> with_reducible rfl)
      try simp only [Act.put, List.setIfInBounds_toArray, List.set_cons_zero, List.set_cons_succ, List.getElem_toArray, List.getElem_cons_zero, List.getElem_cons_succ]
      refine wpAnyH_take (i := 4) (v := .bool bb) rfl (by kernel_rfl) (by kernel_rfl) (by kernel_rfl) (fun _ _ _ h => h) (Or.inl ⟨by rfl, ?_⟩) (by assumption) ?_
      · (intro wx hSw; (try dsimp only at hSw); have hbb := Hbb.out; go_simp)
      try simp only [Act.put, List.setIfInBounds_toArray, List.set_cons_zero, List.set_cons_succ, List.getElem_toArray, List.getElem_cons_zero, List.getElem_cons_succ]
      refine wpAnyH_ready (rs := [5]) (by kernel_rfl) (by simp) ?_
      refine AllReadyH.cons rfl (fun K hK => ?_) AllReadyH.nil
      have hst : (storeCells ⟨w.heap.size + 1, 0, none⟩ Tryz.zeroCells52.toList).run Tryz.prog wv = .ok () (wv.setRow (w.heap.size + 1) (resC (errD 0)).toArray) := by
        rw [zero_res]
        exact R7.out.store rfl
      have hsz : (resC (errD 0)).toArray.size = 138 := by rw [List.size_toArray, resC_len rfl]
      have hg : wv.grownBy (wv.setRow (w.heap.size + 1) (resC (errD 0)).toArray) (some (w.heap.size + 1)) := grown_setRow _ _ _
      have HF : Hid (ResAt (wv.setRow (w.heap.size + 1) (resC (errD 0)).toArray) (w.heap.size + 1) (errD 0)) := R7.out.setRow rfl
      have XF : Hid (ModAt (wv.setRow (w.heap.size + 1) (resC (errD 0)).toArray) X ⟨m.tabs.set k ((mTab m k).set n0 (atO ⟨1, emak, ebn, enum, eoff, erd, ewr, eap⟩ n)), m.there⟩) := X7.out.kept (hg.block _ X7.out.1.lt (by have := Hxl.out; simp; omega))
      have GF : Hid (Kept (fun k => k = X) w (wv.setRow (w.heap.size + 1) (resC (errD 0)).toArray)) := HG7.out.trans (Kept.of_grown hg (fun k => k = (w.heap.size + 1)) (fun k hk => (Option.some.inj hk).symm)) (fun i hi e => by omega)
      have YF : Hid (OpnAt (wv.setRow (w.heap.size + 1) (resC (errD 0)).toArray) Y ⟨1, emak, ebn, enum, eoff, erd, ewr, eap⟩) := (hg.block _ (lt_of_heap Y7.out) (by have := HY.out.1; simp; omega)).trans Y7.out
      clear hg
      go_simp
      refine hK.out _ _ (YF.out) (fun hHeld1 => ?_)
      clear hK K hHeld0
      try simp only [Act.put, List.setIfInBounds_toArray, List.set_cons_zero, List.set_cons_succ, List.getElem_toArray, List.getElem_cons_zero, List.getElem_cons_succ]
      refine wpAnyH_take (i := 6) (v := ?_) rfl (by kernel_rfl) (by kernel_rfl) (by kernel_rfl) (fun _ _ _ h => h) (Or.inl ⟨by rfl, ?_⟩) (by assumption) ?_
      rotate_left
      · (intro wx hSw; (try dsimp only at hSw); go_simp <;> with_reducible rfl)
      try simp only [Act.put, List.setIfInBounds_toArray, List.set_cons_zero, List.set_cons_succ, List.getElem_toArray, List.getElem_cons_zero, List.getElem_cons_succ]
      refine wpAnyH_done (by kernel_rfl) ?_ _
      go_wp2
      refine bodyPost_ret (v := .tuple #[resDV (errD 0), .bool bb]) (results_res2 rfl _ _ (w.heap.size + 1) (by rfl) (by rfl) HF.out) rfl ?_
      unfold DoPost
      rw [HP.out]
      exact ⟨rfl, XF.out, GF.out⟩
    · have hkb : ((ekd : Int) != 1) = true := bne_iff_ne.2 hk1
      have HP : Hid (mdo m ⟨kd, who, tw, (n0 : Int), n, ⟨okd, omak, obn, onum, ooff, ord, owr, oap⟩⟩ = (m, errD 11, false)) := by
        refine HP1.out.trans ?_
        rw [HF0.out, if_pos hk1]
        rfl
      clear HP1 HF0
      clear hk1
      have hst := R4.out.store (r' := (errD 11)) rfl
      have hsz : (resC (errD 11)).toArray.size = 138 := by rw [List.size_toArray, resC_len rfl]
      have hg : w5.grownBy (w5.setRow (w.heap.size + 1) (resC (errD 11)).toArray) (some (w.heap.size + 1)) := grown_setRow _ _ _
      have HF : Hid (ResAt (w5.setRow (w.heap.size + 1) (resC (errD 11)).toArray) (w.heap.size + 1) (errD 11)) := R4.out.setRow rfl
      have XF : Hid (ModAt (w5.setRow (w.heap.size + 1) (resC (errD 11)).toArray) X m) := X4.out.kept (hg.block _ X4.out.1.lt (by have := Hxl.out; simp; omega))
      have GF : Hid (Kept (fun k => k = X) w (w5.setRow (w.heap.size + 1) (resC (errD 11)).toArray)) := HG4.out.trans (Kept.of_grown hg (fun k => k = (w.heap.size + 1)) (fun k hk => (Option.some.inj hk).symm)) (fun i hi e => by omega)
      clear hg
      go_wp2
      refine bodyPost_ret (v := .tuple #[resDV (errD 11), .bool false]) (results_res2 rfl _ _ (w.heap.size + 1) (by rfl) (by rfl) HF.out) rfl ?_
      unfold DoPost
      rw [HP.out]
      exact ⟨rfl, XF.out, GF.out⟩
  · have hq' : ((q : Int) != 0) = true := bne_iff_ne.2 (by omega)
    have HP : Hid (mdo m ⟨kd, who, tw, fd, n, ⟨okd, omak, obn, onum, ooff, ord, owr, oap⟩⟩ = (m, errD q, false)) := HP0.out.trans (if_pos h0)
    clear HP0
    clear h0
    have hst := R1.out.store (r' := (errD q)) rfl
    have hsz : (resC (errD q)).toArray.size = 138 := by rw [List.size_toArray, resC_len rfl]
    have hg : w2.grownBy (w2.setRow (w.heap.size + 1) (resC (errD q)).toArray) (some (w.heap.size + 1)) := grown_setRow _ _ _
    have HF : Hid (ResAt (w2.setRow (w.heap.size + 1) (resC (errD q)).toArray) (w.heap.size + 1) (errD q)) := R1.out.setRow rfl
    have XF : Hid (ModAt (w2.setRow (w.heap.size + 1) (resC (errD q)).toArray) X m) := X1.out.kept (hg.block _ X1.out.1.lt (by have := Hxl.out; simp; omega))
    have GF : Hid (Kept (fun k => k = X) w (w2.setRow (w.heap.size + 1) (resC (errD q)).toArray)) := HG1.out.trans (Kept.of_grown hg (fun k => k = (w.heap.size + 1)) (fun k hk => (Option.some.inj hk).symm)) (fun i hi e => by omega)
    clear hg
    go_wp2
    refine bodyPost_ret (v := .tuple #[resDV (errD q), .bool false]) (results_res2 rfl _ _ (w.heap.size + 1) (by rfl) (by rfl) HF.out) rfl ?_
    unfold DoPost
    rw [HP.out]
    exact ⟨rfl, XF.out, GF.out⟩
set_option linter.unusedSimpArgs false in
set_option maxRecDepth 100000 in
set_option maxHeartbeats 25600000 in
theorem mdo_9 (kd who tw : Nat) (fd n okd : Int) (omak : ByteArray) (obn onum ooff : Int) (ord owr oap : Bool) (X : Nat) (m : ModD) (w : World) (hX : ModAt w X m) (hk : kd < 256) (hw : who < 256) (ht : tw < 256) (hd : -9223372036854775808 ≤ n ∧ n ≤ 9223372036854775807) (hmk : omak.size ≤ 70368744177664) (hTE : ∀ t ∈ m.tabs, tabE t = 0) (hm : kd % 11 = 9) :
    Calls Tryz.prog 21 #[.pointer (some ⟨X, 0, none⟩), .agg #[.int .u8 kd, .int .u8 who, .int .u8 tw, .int .i64 fd, .int .i64 n, .int .i64 okd, .string omak, .int .i64 obn, .int .i64 onum, .int .i64 ooff, .bool ord, .bool owr, .bool oap]] w (DoPost w X (mdo m ⟨kd, who, tw, fd, n, ⟨okd, omak, obn, onum, ooff, ord, owr, oap⟩⟩)) := by
  have HX : Hid (∀ W, Below w.heap.size w W → ModAt W X m) := fun W h => hX.later h
  have Hxl : Hid (X < w.heap.size) := hX.1.lt
  have HB0 : Hid (Below w.heap.size w ((w.alloc (.cells #[.int .u8 kd, .int .u8 who, .int .u8 tw, .int .i64 fd, .int .i64 n, .int .i64 okd, .string omak, .int .i64 obn, .int .i64 onum, .int .i64 ooff, .bool ord, .bool owr, .bool oap] 49)).alloc (.cells Tryz.zeroCells52 52))) := ((Below.refl _ _).alloc (Nat.le_refl _) _).alloc (by simp) _
  have B0 : Hid (RowIs ((w.alloc (.cells #[.int .u8 kd, .int .u8 who, .int .u8 tw, .int .i64 fd, .int .i64 n, .int .i64 okd, .string omak, .int .i64 obn, .int .i64 onum, .int .i64 ooff, .bool ord, .bool owr, .bool oap] 49)).alloc (.cells Tryz.zeroCells52 52)) w.heap.size 49 [.int .u8 kd, .int .u8 who, .int .u8 tw, .int .i64 fd, .int .i64 n, .int .i64 okd, .string omak, .int .i64 obn, .int .i64 onum, .int .i64 ooff, .bool ord, .bool owr, .bool oap]) := (new_row w 49 [.int .u8 kd, .int .u8 who, .int .u8 tw, .int .i64 fd, .int .i64 n, .int .i64 okd, .string omak, .int .i64 obn, .int .i64 onum, .int .i64 ooff, .bool ord, .bool owr, .bool oap]).later ((Below.refl _ _).alloc (Nat.le_refl _) _)
  have R0 : Hid (ResAt ((w.alloc (.cells #[.int .u8 kd, .int .u8 who, .int .u8 tw, .int .i64 fd, .int .i64 n, .int .i64 okd, .string omak, .int .i64 obn, .int .i64 onum, .int .i64 ooff, .bool ord, .bool owr, .bool oap] 49)).alloc (.cells Tryz.zeroCells52 52)) (w.heap.size + 1) (errD 0)) := by
    have := new_res (w.alloc (.cells #[.int .u8 kd, .int .u8 who, .int .u8 tw, .int .i64 fd, .int .i64 n, .int .i64 okd, .string omak, .int .i64 obn, .int .i64 onum, .int .i64 ooff, .bool ord, .bool owr, .bool oap] 49))
    rw [World.size_alloc] at this
    exact this
  have X0 := Lib.hid (HX.out _ HB0.out)
  obtain ⟨k, hk4⟩ : ∃ k : Nat, who % 4 = k := ⟨_, rfl⟩
  obtain ⟨i, hi4⟩ : ∃ i : Nat, tw % 4 = i := ⟨_, rfl⟩
  have HK : Hid (who % 4 = k ∧ k < 4) := ⟨hk4, by omega⟩
  have HI : Hid (tw % 4 = i ∧ i < 4) := ⟨hi4, by omega⟩
  have htk : (who : Int).tmod 4 = (k : Int) := by rw [Int.tmod_eq_emod_of_nonneg (by omega)]; omega
  have hti : (tw : Int).tmod 4 = (i : Int) := by rw [Int.tmod_eq_emod_of_nonneg (by omega)]; omega
  have k0 : (0 : Int) ≤ (k : Int) := by omega
  have k1 : (k : Int) < 4 := by omega
  have i0 : (0 : Int) ≤ (i : Int) := by omega
  have i1 : (i : Int) < 4 := by omega
  have Hd := Lib.hid hd
  have Hmk := Lib.hid hmk
  have HTE := Lib.hid hTE
  have hkn : (0 : Int) ≤ (kd : Int) := by omega
  have hkx : (kd : Int) ≤ 255 := by omega
  have hwn : (0 : Int) ≤ (who : Int) := by omega
  have hwx : (who : Int) ≤ 255 := by omega
  have htn : (0 : Int) ≤ (tw : Int) := by omega
  have htx : (tw : Int) ≤ 255 := by omega
  have HM := Lib.hid hm
  clear hd hmk hTE hk4 hi4 hX hm
  go_enter Tryz.func21, Tryz.ntmps21
  go_upto_region 1 with fail
  obtain ⟨w1, hw1⟩ : ∃ w1, ((w.alloc (.cells #[.int .u8 kd, .int .u8 who, .int .u8 tw, .int .i64 fd, .int .i64 n, .int .i64 okd, .string omak, .int .i64 obn, .int .i64 onum, .int .i64 ooff, .bool ord, .bool owr, .bool oap] 49)).alloc (.cells Tryz.zeroCells52 52)) = w1 := ⟨_, rfl⟩
  rw [hw1] at HB0 B0 R0 X0 ⊢
  clear hw1
  have b1 := B0.out.cell (i := 1) rfl
  have b2 := B0.out.cell (i := 2) rfl
  have hi64k : IntKind.i64.wrap (k : Int) = (k : Int) := IntWalk.i64_in _ (by omega)
  have hi64i : IntKind.i64.wrap (i : Int) = (i : Int) := IntWalk.i64_in _ (by omega)
  go_quiet (fail)
  clear b1 b2 htk hti hi64k hi64i
  have hbd : Below w1.heap.size w1 (w1.drewN nq) := ⟨rfl, rfl, rfl, Nat.le_refl _, fun _ _ => rfl⟩
  have HG1 : Hid (Kept (fun k => k = X) w (w1.drewN nq)) := Kept.of_below (HB0.out.trans (hbd.mono HB0.out.size)) _
  have B1 := Lib.hid (B0.out.later hbd)
  have R1 := Lib.hid (R0.out.later hbd)
  have X1 := Lib.hid (X0.out.later hbd)
  clear hbd HB0 B0 R0 X0
  generalize w1.drewN nq = w2 at *
  have hm := HM.out
  have hmi : (kd : Int) % 11 = 9 := by omega
  have HP0 : Hid (mdo m ⟨kd, who, tw, fd, n, ⟨okd, omak, obn, onum, ooff, ord, owr, oap⟩⟩ = mOne m k (moveF fd (advG n))) := by
    show _ = _
    rw [mD9 (o := ⟨kd, who, tw, fd, n, ⟨okd, omak, obn, onum, ooff, ord, owr, oap⟩⟩) hm]
    dsimp only
    rw [HK.out.1]
  clear HM hm
  have b0 := B1.out.cell (i := 0) rfl
  have b3 := B1.out.cell (i := 3) rfl
  have b4 := B1.out.cell (i := 4) rfl
  have HP1 := Lib.hid (HP0.out.trans (get_one m k fd (moveF fd (advG n)) (fun t h => if_pos h)))
  clear HP0
  have HP0 := HP1
  clear HP1
  obtain ⟨q, hq⟩ : ∃ q, mGetE m k fd = q := ⟨_, rfl⟩
  have hc := mGet_any X1.out HK.out.2 fd
  rw [hq] at hc HP0
  have HC := Lib.hid hc
  have Hq := Lib.hid hq
  clear hc hq
  go_wp2_with fail
  refine HC.out.mono ?_
  rintro r w3 ⟨rfl, rfl⟩
  clear HC
  by_cases h0 : q = 0
  · subst h0
    obtain ⟨hth, hbd⟩ := mGet_ok Hq.out
    obtain ⟨f0, f1, hz⟩ := badD_no hbd
    obtain ⟨n0, rfl⟩ := Int.eq_ofNat_of_zero_le (show 0 ≤ fd by omega)
    have hn16 : n0 < 16 := by omega
    have Hn := Lib.hid hn16
    obtain ⟨x, hx⟩ := ent_some (X1.out.2.tl k) hn16
    have he : entD (mTab m k) (n0 : Int) = x := by unfold entD; rw [List.getD_eq_getElem?_getD, show ((n0 : Nat) : Int).toNat = n0 from rfl, hx]; rfl
    rw [he] at hz
    obtain ⟨ekd, emak, ebn, enum, eoff, erd, ewr, eap⟩ := x
    have Hx := Lib.hid hx
    have j0 : (0 : Int) ≤ (n0 : Int) := by omega
    have j1 : ((n0 : Nat) : Int) < 16 := by omega
    have Hoff : Hid (0 ≤ eoff ∧ eoff ≤ 4096) := (checkO_ok (tabE_mem (HTE.out _ (List.mem_of_getElem? (X1.out.2.tab HK.out.2))) _ (List.mem_of_getElem? hx) hz)).off
    have Hth := Lib.hid hth
    have HP1 : Hid (mdo m ⟨kd, who, tw, (n0 : Int), n, ⟨okd, omak, obn, onum, ooff, ord, owr, oap⟩⟩ = (mUpd m k (moveF (n0 : Int) (advG n) (mTab m k)).2, (moveF (n0 : Int) (advG n) (mTab m k)).1, (moveF (n0 : Int) (advG n) (mTab m k)).2.isSome)) := HP0.out.trans (if_neg (by simp))
    have HF0 : Hid (moveF (n0 : Int) (advG n) (mTab m k) = if ekd ≠ 1 then (errD 11, none) else if (advG n) eoff < 0 ∨ 4096 < (advG n) eoff then (errD 2, none) else if (advG n) eoff = eoff then (errD 0, none) else (errD 0, some (some ((mTab m k).set n0 (atO ⟨ekd, emak, ebn, enum, eoff, erd, ewr, eap⟩ ((advG n) eoff)))))) := by
      show _ = _
      unfold moveF
      rw [if_neg (by rw [hbd]; decide), he]
      rfl
    clear HP0 hz he hx hbd hth f0 f1 hn16
    go_upto_region 60 with fail
    clear b0 b3 b4
    have hbd : Below w2.heap.size w2 w2.drew := (Below.refl _ _).drew
    have B2 := Lib.hid (B1.out.later hbd)
    have R2 := Lib.hid (R1.out.later hbd)
    have X2 := Lib.hid (X1.out.later hbd)
    have HG2 : Hid (Kept (fun k => k = X) w w2.drew) := HG1.out.trans (Kept.of_below hbd (fun _ => False)) (fun _ _ h => h.elim)
    clear hbd B1 R1 X1 HG1
    refine wp_region_held_drew (S := (fun W => RowIs W w.heap.size 49 [.int .u8 kd, .int .u8 who, .int .u8 tw, .int .i64 (n0 : Int), .int .i64 n, .int .i64 okd, .string omak, .int .i64 obn, .int .i64 onum, .int .i64 ooff, .bool ord, .bool owr, .bool oap] ∧ ModAt W X m)) (by kernel_rfl) (⟨B2.out, X2.out⟩) (fun hHeld0 => ?_)
    obtain ⟨wv, hwn⟩ : ∃ x, w2.drew = x := ⟨_, rfl⟩
    rw [hwn] at B2 R2 X2 HG2 hHeld0 ⊢
    clear hwn
    refine wpAnyH_take (i := 0) (v := ?_) rfl (by kernel_rfl) (by kernel_rfl) (by kernel_rfl) (fun _ _ _ h => h) (Or.inl ⟨by rfl, ?_⟩) (by assumption) ?_
    rotate_left
    · (intro wx hSw; (try dsimp only at hSw); go_simp <;> with_reducible rfl)
    try simp only [Act.put, List.setIfInBounds_toArray, List.set_cons_zero, List.set_cons_succ, List.getElem_toArray, List.getElem_cons_zero, List.getElem_cons_succ]
    refine wpAnyH_take (i := 1) (v := ?_) rfl (by kernel_rfl) (by kernel_rfl) (by kernel_rfl) (fun _ _ _ h => h) (Or.inl ⟨by rfl, ?_⟩) (by assumption) ?_
    rotate_left
    · (intro wx hSw; (try dsimp only at hSw); go_simp <;> with_reducible rfl)
    try simp only [Act.put, List.setIfInBounds_toArray, List.set_cons_zero, List.set_cons_succ, List.getElem_toArray, List.getElem_cons_zero, List.getElem_cons_succ]
    refine wpAnyH_take (i := 2) (v := ?_) rfl (by kernel_rfl) (by kernel_rfl) (by kernel_rfl) (fun _ _ _ h => h) (Or.inl ⟨by rfl, ?_⟩) (by assumption) ?_
    rotate_left
    · (intro wx hSw; (try dsimp only at hSw); go_simp <;> with_reducible rfl)
    try simp only [Act.put, List.setIfInBounds_toArray, List.set_cons_zero, List.set_cons_succ, List.getElem_toArray, List.getElem_cons_zero, List.getElem_cons_succ]
    refine wpAnyH_take (i := 3) (v := ?_) rfl (by kernel_rfl) (by kernel_rfl) (by kernel_rfl) (fun _ _ _ h => h) (Or.inl ⟨by rfl, ?_⟩) (by assumption) ?_
    rotate_left
    · (intro wx hSw; (try dsimp only at hSw); have c3 := hSw.1.cell (i := 3) rfl; go_simp <;> with_reducible rfl)
    try simp only [Act.put, List.setIfInBounds_toArray, List.set_cons_zero, List.set_cons_succ, List.getElem_toArray, List.getElem_cons_zero, List.getElem_cons_succ]
    refine wpAnyH_take (i := 4) (v := ?_) rfl (by kernel_rfl) (by kernel_rfl) (by kernel_rfl) (fun _ _ _ h => h) (Or.inl ⟨by rfl, ?_⟩) (by assumption) ?_
    rotate_left
    · (intro wx hSw; (try dsimp only at hSw); go_simp <;> with_reducible rfl)
    try simp only [Act.put, List.setIfInBounds_toArray, List.set_cons_zero, List.set_cons_succ, List.getElem_toArray, List.getElem_cons_zero, List.getElem_cons_succ]
    refine wpAnyH_take (i := 5) (v := ?_) rfl (by kernel_rfl) (by kernel_rfl) (by kernel_rfl) (fun _ _ _ h => h) (Or.inl ⟨by rfl, ?_⟩) (by assumption) ?_
    rotate_left
    · (intro wx hSw; (try dsimp only at hSw); go_simp <;> with_reducible rfl)
    try simp only [Act.put, List.setIfInBounds_toArray, List.set_cons_zero, List.set_cons_succ, List.getElem_toArray, List.getElem_cons_zero, List.getElem_cons_succ]
    refine wpAnyH_take (i := 6) (v := ?_) rfl (by kernel_rfl) (by kernel_rfl) (by kernel_rfl) (fun _ _ _ h => h) (Or.inl ⟨by rfl, ?_⟩) (by assumption) ?_
    rotate_left
    · (intro wx hSw; (try dsimp only at hSw); go_simp <;> with_reducible rfl)
    try simp only [Act.put, List.setIfInBounds_toArray, List.set_cons_zero, List.set_cons_succ, List.getElem_toArray, List.getElem_cons_zero, List.getElem_cons_succ]
    refine wpAnyH_take (i := 7) (v := ?_) rfl (by kernel_rfl) (by kernel_rfl) (by kernel_rfl) (fun _ _ _ h => h) (Or.inl ⟨by rfl, ?_⟩) (by assumption) ?_
    rotate_left
    · (intro wx hSw; (try dsimp only at hSw); go_simp <;> with_reducible rfl)
    try simp only [Act.put, List.setIfInBounds_toArray, List.set_cons_zero, List.set_cons_succ, List.getElem_toArray, List.getElem_cons_zero, List.getElem_cons_succ]
    refine wpAnyH_take (i := 8) (v := ?_) rfl (by kernel_rfl) (by kernel_rfl) (by kernel_rfl) (fun _ _ _ h => h) (Or.inl ⟨by rfl, ?_⟩) (by assumption) ?_
    rotate_left
    · (intro wx hSw; (try dsimp only at hSw); have z0 : wx.cell? ⟨X, k * 128 + n0 * 8, none⟩ = some (.int .i64 ekd) := hSw.2.ent HK.out.2 Hx.out (j := 0) rfl; have z1 : wx.cell? ⟨X, k * 128 + n0 * 8 + 1, none⟩ = some (.string emak) := hSw.2.ent HK.out.2 Hx.out (j := 1) rfl; have z2 : wx.cell? ⟨X, k * 128 + n0 * 8 + 2, none⟩ = some (.int .i64 ebn) := hSw.2.ent HK.out.2 Hx.out (j := 2) rfl; have z3 : wx.cell? ⟨X, k * 128 + n0 * 8 + 3, none⟩ = some (.int .i64 enum) := hSw.2.ent HK.out.2 Hx.out (j := 3) rfl; have z4 : wx.cell? ⟨X, k * 128 + n0 * 8 + 4, none⟩ = some (.int .i64 eoff) := hSw.2.ent HK.out.2 Hx.out (j := 4) rfl; have z5 : wx.cell? ⟨X, k * 128 + n0 * 8 + 5, none⟩ = some (.bool erd) := hSw.2.ent HK.out.2 Hx.out (j := 5) rfl; have z6 : wx.cell? ⟨X, k * 128 + n0 * 8 + 6, none⟩ = some (.bool ewr) := hSw.2.ent HK.out.2 Hx.out (j := 6) rfl; have z7 : wx.cell? ⟨X, k * 128 + n0 * 8 + 7, none⟩ = some (.bool eap) := hSw.2.ent HK.out.2 Hx.out (j := 7) rfl; go_simp <;> with_reducible rfl)
    try simp only [Act.put, List.setIfInBounds_toArray, List.set_cons_zero, List.set_cons_succ, List.getElem_toArray, List.getElem_cons_zero, List.getElem_cons_succ]
    refine wpAnyH_ready (rs := [9]) (by kernel_rfl) (by simp) ?_
    refine AllReadyH.cons rfl (fun K hK => ?_) AllReadyH.nil
    have hb : Below wv.heap.size wv (wv.alloc (.cells #[.int .i64 0, .string ⟨#[]⟩, .int .i64 0, .int .i64 0, .int .i64 0, .bool false, .bool false, .bool false] 34)) := (Below.refl _ _).alloc (Nat.le_refl _) _
    have B3 := Lib.hid (B2.out.later hb)
    have R3 := Lib.hid (R2.out.later hb)
    have X3 := Lib.hid (X2.out.later hb)
    have HG3 : Hid (Kept (fun k => k = X) w (wv.alloc (.cells #[.int .i64 0, .string ⟨#[]⟩, .int .i64 0, .int .i64 0, .int .i64 0, .bool false, .bool false, .bool false] 34))) := HG2.out.trans (Kept.of_below hb (fun _ => False)) (fun _ _ h => h.elim)
    have Y3 : Hid (OpnAt (wv.alloc (.cells #[.int .i64 0, .string ⟨#[]⟩, .int .i64 0, .int .i64 0, .int .i64 0, .bool false, .bool false, .bool false] 34)) wv.heap.size ⟨0, ⟨#[]⟩, 0, 0, 0, false, false, false⟩) := World.alloc_heap_new wv _
    have HY : Hid (w.heap.size + 1 < wv.heap.size ∧ X < wv.heap.size) := ⟨R2.out.1.lt, X2.out.1.lt⟩
    clear hb
    go_simp
    refine hK.out _ _ (⟨B3.out, X3.out⟩) (fun hHeld1 => ?_)
    clear hK K hHeld0
    try simp only [Act.put, List.setIfInBounds_toArray, List.set_cons_zero, List.set_cons_succ, List.getElem_toArray, List.getElem_cons_zero, List.getElem_cons_succ]
    refine wpAnyH_ready (rs := [10]) (by kernel_rfl) (by simp) ?_
    refine AllReadyH.cons rfl (fun K hK => ?_) AllReadyH.nil
    obtain ⟨Y, hY⟩ : ∃ Y, wv.heap.size = Y := ⟨_, rfl⟩
    rw [hY] at Y3 HY ⊢
    obtain ⟨w4, hwn⟩ : ∃ x, (wv.alloc (.cells #[.int .i64 0, .string ⟨#[]⟩, .int .i64 0, .int .i64 0, .int .i64 0, .bool false, .bool false, .bool false] 34)) = x := ⟨_, rfl⟩
    rw [hwn] at B3 R3 X3 HG3 Y3 hHeld1 ⊢
    clear hwn
    clear hY
    obtain ⟨d0, d1, d2, d3, d4, d5, d6, d7⟩ := Y3.out.cells
    have q0 := Y3.out.free 0
    have q1 := Y3.out.free 1
    have q2 := Y3.out.free 2
    have q3 := Y3.out.free 3
    have q4 := Y3.out.free 4
    have q5 := Y3.out.free 5
    have q6 := Y3.out.free 6
    have q7 := Y3.out.free 7
    have hg : w4.grownBy ((((((((w4.setCell ⟨Y, 0, none⟩ (.int .i64 ekd)).setCell ⟨Y, 1, none⟩ (.string emak)).setCell ⟨Y, 2, none⟩ (.int .i64 ebn)).setCell ⟨Y, 3, none⟩ (.int .i64 enum)).setCell ⟨Y, 4, none⟩ (.int .i64 eoff)).setCell ⟨Y, 5, none⟩ (.bool erd)).setCell ⟨Y, 6, none⟩ (.bool ewr)).setCell ⟨Y, 7, none⟩ (.bool eap)) (some Y) := grown_set8 _ _ _ _ _ _ _ _ _ _ _ _ _ _ _ _ _ _
    have B4 := Lib.hid (B3.out.kept (hg.block _ B3.out.lt (by have := HY.out.1; simp; omega)))
    have R4 := Lib.hid (R3.out.kept (hg.block _ R3.out.1.lt (by have := HY.out.1; simp; omega)))
    have X4 := Lib.hid (X3.out.kept (hg.block _ X3.out.1.lt (by have := HY.out.2; simp; omega)))
    have HG4 : Hid (Kept (fun k => k = X) w ((((((((w4.setCell ⟨Y, 0, none⟩ (.int .i64 ekd)).setCell ⟨Y, 1, none⟩ (.string emak)).setCell ⟨Y, 2, none⟩ (.int .i64 ebn)).setCell ⟨Y, 3, none⟩ (.int .i64 enum)).setCell ⟨Y, 4, none⟩ (.int .i64 eoff)).setCell ⟨Y, 5, none⟩ (.bool erd)).setCell ⟨Y, 6, none⟩ (.bool ewr)).setCell ⟨Y, 7, none⟩ (.bool eap))) := HG3.out.trans (Kept.of_grown hg (fun k => k = Y) (fun k hk => (Option.some.inj hk).symm)) (fun i hi e => by have := HY.out.1; omega)
    have Y4 : Hid (OpnAt ((((((((w4.setCell ⟨Y, 0, none⟩ (.int .i64 ekd)).setCell ⟨Y, 1, none⟩ (.string emak)).setCell ⟨Y, 2, none⟩ (.int .i64 ebn)).setCell ⟨Y, 3, none⟩ (.int .i64 enum)).setCell ⟨Y, 4, none⟩ (.int .i64 eoff)).setCell ⟨Y, 5, none⟩ (.bool erd)).setCell ⟨Y, 6, none⟩ (.bool ewr)).setCell ⟨Y, 7, none⟩ (.bool eap)) Y ⟨ekd, emak, ebn, enum, eoff, erd, ewr, eap⟩) := opn_stored Y3.out ⟨ekd, emak, ebn, enum, eoff, erd, ewr, eap⟩
    clear hg
    go_simp
    refine hK.out _ _ (⟨B4.out, X4.out⟩) (fun hHeld2 => ?_)
    clear hK K hHeld1
    try simp only [Act.put, List.setIfInBounds_toArray, List.set_cons_zero, List.set_cons_succ, List.getElem_toArray, List.getElem_cons_zero, List.getElem_cons_succ]
    refine wpAnyH_done (by kernel_rfl) ?_ _
    clear d0 d1 d2 d3 d4 d5 d6 d7 q0 q1 q2 q3 q4 q5 q6 q7 B2 R2 X2 HG2 B3 R3 X3 HG3 Y3
    go_upto_region 61 with fail
    obtain ⟨w5, hwn⟩ : ∃ x, ((((((((w4.setCell ⟨Y, 0, none⟩ (.int .i64 ekd)).setCell ⟨Y, 1, none⟩ (.string emak)).setCell ⟨Y, 2, none⟩ (.int .i64 ebn)).setCell ⟨Y, 3, none⟩ (.int .i64 enum)).setCell ⟨Y, 4, none⟩ (.int .i64 eoff)).setCell ⟨Y, 5, none⟩ (.bool erd)).setCell ⟨Y, 6, none⟩ (.bool ewr)).setCell ⟨Y, 7, none⟩ (.bool eap)) = x := ⟨_, rfl⟩
    rw [hwn] at B4 R4 X4 HG4 Y4 ⊢
    clear hwn
    have b0 := B4.out.cell (i := 0) rfl
    obtain ⟨d0, d1, d2, d3, d4, d5, d6, d7⟩ := Y4.out.cells
    by_cases hk1 : ekd = 1
    · subst hk1
      by_cases n1 : n < -10000
      · have HP : Hid (mdo m ⟨kd, who, tw, (n0 : Int), n, ⟨okd, omak, obn, onum, ooff, ord, owr, oap⟩⟩ = (m, errD 2, false)) := by
          refine HP1.out.trans ?_
          rw [HF0.out, if_neg (by simp), if_pos (by have := Hoff.out; have := Hd.out; unfold advG; rw [if_neg (by omega)]; left; omega)]
          rfl
        clear HP1 HF0
        have hst := R4.out.store (r' := (errD 2)) rfl
        have hsz : (resC (errD 2)).toArray.size = 138 := by rw [List.size_toArray, resC_len rfl]
        have hg : w5.grownBy (w5.setRow (w.heap.size + 1) (resC (errD 2)).toArray) (some (w.heap.size + 1)) := grown_setRow _ _ _
        have HF : Hid (ResAt (w5.setRow (w.heap.size + 1) (resC (errD 2)).toArray) (w.heap.size + 1) (errD 2)) := R4.out.setRow rfl
        have XF : Hid (ModAt (w5.setRow (w.heap.size + 1) (resC (errD 2)).toArray) X m) := X4.out.kept (hg.block _ X4.out.1.lt (by have := Hxl.out; simp; omega))
        have GF : Hid (Kept (fun k => k = X) w (w5.setRow (w.heap.size + 1) (resC (errD 2)).toArray)) := HG4.out.trans (Kept.of_grown hg (fun k => k = (w.heap.size + 1)) (fun k hk => (Option.some.inj hk).symm)) (fun i hi e => by omega)
        clear hg
        go_wp2
        refine bodyPost_ret (v := .tuple #[resDV (errD 2), .bool false]) (results_res2 rfl _ _ (w.heap.size + 1) (by rfl) (by rfl) HF.out) rfl ?_
        unfold DoPost
        rw [HP.out]
        exact ⟨rfl, XF.out, GF.out⟩
      by_cases n2 : 10000 < n
      · have HP : Hid (mdo m ⟨kd, who, tw, (n0 : Int), n, ⟨okd, omak, obn, onum, ooff, ord, owr, oap⟩⟩ = (m, errD 2, false)) := by
          refine HP1.out.trans ?_
          rw [HF0.out, if_neg (by simp), if_pos (by have := Hoff.out; have := Hd.out; unfold advG; split <;> omega)]
          rfl
        clear HP1 HF0
        have hst := R4.out.store (r' := (errD 2)) rfl
        have hsz : (resC (errD 2)).toArray.size = 138 := by rw [List.size_toArray, resC_len rfl]
        have hg : w5.grownBy (w5.setRow (w.heap.size + 1) (resC (errD 2)).toArray) (some (w.heap.size + 1)) := grown_setRow _ _ _
        have HF : Hid (ResAt (w5.setRow (w.heap.size + 1) (resC (errD 2)).toArray) (w.heap.size + 1) (errD 2)) := R4.out.setRow rfl
        have XF : Hid (ModAt (w5.setRow (w.heap.size + 1) (resC (errD 2)).toArray) X m) := X4.out.kept (hg.block _ X4.out.1.lt (by have := Hxl.out; simp; omega))
        have GF : Hid (Kept (fun k => k = X) w (w5.setRow (w.heap.size + 1) (resC (errD 2)).toArray)) := HG4.out.trans (Kept.of_grown hg (fun k => k = (w.heap.size + 1)) (fun k hk => (Option.some.inj hk).symm)) (fun i hi e => by omega)
        clear hg
        go_wp2
        refine bodyPost_ret (v := .tuple #[resDV (errD 2), .bool false]) (results_res2 rfl _ _ (w.heap.size + 1) (by rfl) (by rfl) HF.out) rfl ?_
        unfold DoPost
        rw [HP.out]
        exact ⟨rfl, XF.out, GF.out⟩
      have o1 := Hoff.out.1
      have o2 := Hoff.out.2
      have Hadv : Hid (advG n eoff = n + eoff) := by show _ = _; unfold advG; rw [if_neg (by omega)]; omega
      by_cases n3 : n + eoff < 0
      · have HP : Hid (mdo m ⟨kd, who, tw, (n0 : Int), n, ⟨okd, omak, obn, onum, ooff, ord, owr, oap⟩⟩ = (m, errD 2, false)) := by
          refine HP1.out.trans ?_
          rw [HF0.out, if_neg (by simp), if_pos (by rw [Hadv.out]; left; exact n3)]
          rfl
        clear HP1 HF0
        have hst := R4.out.store (r' := (errD 2)) rfl
        have hsz : (resC (errD 2)).toArray.size = 138 := by rw [List.size_toArray, resC_len rfl]
        have hg : w5.grownBy (w5.setRow (w.heap.size + 1) (resC (errD 2)).toArray) (some (w.heap.size + 1)) := grown_setRow _ _ _
        have HF : Hid (ResAt (w5.setRow (w.heap.size + 1) (resC (errD 2)).toArray) (w.heap.size + 1) (errD 2)) := R4.out.setRow rfl
        have XF : Hid (ModAt (w5.setRow (w.heap.size + 1) (resC (errD 2)).toArray) X m) := X4.out.kept (hg.block _ X4.out.1.lt (by have := Hxl.out; simp; omega))
        have GF : Hid (Kept (fun k => k = X) w (w5.setRow (w.heap.size + 1) (resC (errD 2)).toArray)) := HG4.out.trans (Kept.of_grown hg (fun k => k = (w.heap.size + 1)) (fun k hk => (Option.some.inj hk).symm)) (fun i hi e => by omega)
        clear hg
        go_wp2
        refine bodyPost_ret (v := .tuple #[resDV (errD 2), .bool false]) (results_res2 rfl _ _ (w.heap.size + 1) (by rfl) (by rfl) HF.out) rfl ?_
        unfold DoPost
        rw [HP.out]
        exact ⟨rfl, XF.out, GF.out⟩
      by_cases n4 : 4096 < n + eoff
      · have HP : Hid (mdo m ⟨kd, who, tw, (n0 : Int), n, ⟨okd, omak, obn, onum, ooff, ord, owr, oap⟩⟩ = (m, errD 2, false)) := by
          refine HP1.out.trans ?_
          rw [HF0.out, if_neg (by simp), if_pos (by rw [Hadv.out]; right; exact n4)]
          rfl
        clear HP1 HF0
        have hst := R4.out.store (r' := (errD 2)) rfl
        have hsz : (resC (errD 2)).toArray.size = 138 := by rw [List.size_toArray, resC_len rfl]
        have hg : w5.grownBy (w5.setRow (w.heap.size + 1) (resC (errD 2)).toArray) (some (w.heap.size + 1)) := grown_setRow _ _ _
        have HF : Hid (ResAt (w5.setRow (w.heap.size + 1) (resC (errD 2)).toArray) (w.heap.size + 1) (errD 2)) := R4.out.setRow rfl
        have XF : Hid (ModAt (w5.setRow (w.heap.size + 1) (resC (errD 2)).toArray) X m) := X4.out.kept (hg.block _ X4.out.1.lt (by have := Hxl.out; simp; omega))
        have GF : Hid (Kept (fun k => k = X) w (w5.setRow (w.heap.size + 1) (resC (errD 2)).toArray)) := HG4.out.trans (Kept.of_grown hg (fun k => k = (w.heap.size + 1)) (fun k hk => (Option.some.inj hk).symm)) (fun i hi e => by omega)
        clear hg
        go_wp2
        refine bodyPost_ret (v := .tuple #[resDV (errD 2), .bool false]) (results_res2 rfl _ _ (w.heap.size + 1) (by rfl) (by rfl) HF.out) rfl ?_
        unfold DoPost
        rw [HP.out]
        exact ⟨rfl, XF.out, GF.out⟩
      have HP : Hid (mdo m ⟨kd, who, tw, (n0 : Int), n, ⟨okd, omak, obn, onum, ooff, ord, owr, oap⟩⟩ = (⟨m.tabs.set k ((mTab m k).set n0 (atO ⟨1, emak, ebn, enum, eoff, erd, ewr, eap⟩ (n + eoff))), m.there⟩, errD 0, ((n + eoff) != eoff))) := by
        refine HP1.out.trans ?_
        rw [HF0.out, if_neg (by simp), if_neg (by rw [Hadv.out]; omega), Hadv.out]
        by_cases hq0 : (n + eoff) = eoff
        · rw [if_pos hq0]
          have := set_self X4.out.2 HK.out.2 Hx.out
          have e1 : atO ⟨1, emak, ebn, enum, eoff, erd, ewr, eap⟩ (n + eoff) = ⟨1, emak, ebn, enum, eoff, erd, ewr, eap⟩ := by unfold atO; rw [hq0]
          rw [e1, this, hq0]
          simp [mUpd]
        · rw [if_neg hq0]
          dsimp only
          rw [upd_there X4.out.2 HK.out.2 Hth.out]
          have e2 : ((n + eoff) != eoff) = true := bne_iff_ne.2 hq0
          rw [e2]
          rfl
      clear HP1 HF0
      obtain ⟨bb, hbb⟩ : ∃ bb, ((n + eoff) != eoff) = bb := ⟨_, rfl⟩
      rw [hbb] at HP
      have Hbb := Lib.hid hbb
      clear hbb
      have hwr : IntKind.i64.wrap (n + eoff) = n + eoff := IntWalk.i64_in _ (by omega)
      go_upto_region 79 with fail
      clear d0 d1 d2 d3 d4 d5 d6 d7 b0 hwr
      have Y5 : Hid (OpnAt w5.drew Y ⟨1, emak, ebn, enum, eoff, erd, ewr, eap⟩) := Y4.out
      have hbd : Below w5.heap.size w5 w5.drew := (Below.refl _ _).drew
      have B5 := Lib.hid (B4.out.later hbd)
      have R5 := Lib.hid (R4.out.later hbd)
      have X5 := Lib.hid (X4.out.later hbd)
      have HG5 : Hid (Kept (fun k => k = X) w w5.drew) := HG4.out.trans (Kept.of_below hbd (fun _ => False)) (fun _ _ h => h.elim)
      clear hbd B4 R4 X4 HG4
      refine wp_region_held_drew (S := (fun W => RowIs W w.heap.size 49 [.int .u8 kd, .int .u8 who, .int .u8 tw, .int .i64 (n0 : Int), .int .i64 n, .int .i64 okd, .string omak, .int .i64 obn, .int .i64 onum, .int .i64 ooff, .bool ord, .bool owr, .bool oap])) (by kernel_rfl) (B5.out) (fun hHeld0 => ?_)
      obtain ⟨wv, hwn⟩ : ∃ x, w5.drew = x := ⟨_, rfl⟩
      rw [hwn] at B5 R5 X5 HG5 Y5 hHeld0 ⊢
      clear hwn
      refine wpAnyH_take (i := 0) (v := ?_) rfl (by kernel_rfl) (by kernel_rfl) (by kernel_rfl) (fun _ _ _ h => h) (Or.inl ⟨by rfl, ?_⟩) (by assumption) ?_
      rotate_left
      · (intro wx hSw; (try dsimp only at hSw); go_simp <;> with_reducible rfl)
      try simp only [Act.put, List.setIfInBounds_toArray, List.set_cons_zero, List.set_cons_succ, List.getElem_toArray, List.getElem_cons_zero, List.getElem_cons_succ]
      refine wpAnyH_take (i := 1) (v := ?_) rfl (by kernel_rfl) (by kernel_rfl) (by kernel_rfl) (fun _ _ _ h => h) (Or.inl ⟨by rfl, ?_⟩) (by assumption) ?_
      rotate_left
      · (intro wx hSw; (try dsimp only at hSw); go_simp <;> with_reducible rfl)
      try simp only [Act.put, List.setIfInBounds_toArray, List.set_cons_zero, List.set_cons_succ, List.getElem_toArray, List.getElem_cons_zero, List.getElem_cons_succ]
      refine wpAnyH_take (i := 2) (v := ?_) rfl (by kernel_rfl) (by kernel_rfl) (by kernel_rfl) (fun _ _ _ h => h) (Or.inl ⟨by rfl, ?_⟩) (by assumption) ?_
      rotate_left
      · (intro wx hSw; (try dsimp only at hSw); go_simp <;> with_reducible rfl)
      try simp only [Act.put, List.setIfInBounds_toArray, List.set_cons_zero, List.set_cons_succ, List.getElem_toArray, List.getElem_cons_zero, List.getElem_cons_succ]
      refine wpAnyH_take (i := 3) (v := ?_) rfl (by kernel_rfl) (by kernel_rfl) (by kernel_rfl) (fun _ _ _ h => h) (Or.inl ⟨by rfl, ?_⟩) (by assumption) ?_
      rotate_left
      · (intro wx hSw; (try dsimp only at hSw); have c3 := hSw.cell (i := 3) rfl; go_simp <;> with_reducible rfl)
      try simp only [Act.put, List.setIfInBounds_toArray, List.set_cons_zero, List.set_cons_succ, List.getElem_toArray, List.getElem_cons_zero, List.getElem_cons_succ]
      refine wpAnyH_take (i := 4) (v := ?_) rfl (by kernel_rfl) (by kernel_rfl) (by kernel_rfl) (fun _ _ _ h => h) (Or.inl ⟨by rfl, ?_⟩) (by assumption) ?_
      rotate_left
      · (intro wx hSw; (try dsimp only at hSw); go_simp <;> with_reducible rfl)
      try simp only [Act.put, List.setIfInBounds_toArray, List.set_cons_zero, List.set_cons_succ, List.getElem_toArray, List.getElem_cons_zero, List.getElem_cons_succ]
      refine wpAnyH_take (i := 5) (v := ?_) rfl (by kernel_rfl) (by kernel_rfl) (by kernel_rfl) (fun _ _ _ h => h) (Or.inl ⟨by rfl, ?_⟩) (by assumption) ?_
      rotate_left
      · (intro wx hSw; (try dsimp only at hSw); go_simp <;> with_reducible rfl)
      try simp only [Act.put, List.setIfInBounds_toArray, List.set_cons_zero, List.set_cons_succ, List.getElem_toArray, List.getElem_cons_zero, List.getElem_cons_succ]
      refine wpAnyH_take (i := 6) (v := ?_) rfl (by kernel_rfl) (by kernel_rfl) (by kernel_rfl) (fun _ _ _ h => h) (Or.inl ⟨by rfl, ?_⟩) (by assumption) ?_
      rotate_left
      · (intro wx hSw; (try dsimp only at hSw); go_simp <;> with_reducible rfl)
      try simp only [Act.put, List.setIfInBounds_toArray, List.set_cons_zero, List.set_cons_succ, List.getElem_toArray, List.getElem_cons_zero, List.getElem_cons_succ]
      refine wpAnyH_take (i := 7) (v := ?_) rfl (by kernel_rfl) (by kernel_rfl) (by kernel_rfl) (fun _ _ _ h => h) (Or.inl ⟨by rfl, ?_⟩) (by assumption) ?_
      rotate_left
      · (intro wx hSw; (try dsimp only at hSw); go_simp <;> with_reducible rfl)
      try simp only [Act.put, List.setIfInBounds_toArray, List.set_cons_zero, List.set_cons_succ, List.getElem_toArray, List.getElem_cons_zero, List.getElem_cons_succ]
      refine wpAnyH_take (i := 8) (v := ?_) rfl (by kernel_rfl) (by kernel_rfl) (by kernel_rfl) (fun _ _ _ h => h) (Or.inl ⟨by rfl, ?_⟩) (by assumption) ?_
      rotate_left
      · (intro wx hSw; (try dsimp only at hSw); go_simp <;> with_reducible rfl)
      try simp only [Act.put, List.setIfInBounds_toArray, List.set_cons_zero, List.set_cons_succ, List.getElem_toArray, List.getElem_cons_zero, List.getElem_cons_succ]
      refine wpAnyH_take (i := 9) (v := ?_) rfl (by kernel_rfl) (by kernel_rfl) (by kernel_rfl) (fun _ _ _ h => h) (Or.inl ⟨by rfl, ?_⟩) (by assumption) ?_
      rotate_left
      · (intro wx hSw; (try dsimp only at hSw); go_simp <;> with_reducible rfl)
      try simp only [Act.put, List.setIfInBounds_toArray, List.set_cons_zero, List.set_cons_succ, List.getElem_toArray, List.getElem_cons_zero, List.getElem_cons_succ]
      refine wpAnyH_ready (rs := [10]) (by kernel_rfl) (by simp) ?_
      refine AllReadyH.cons rfl (fun K hK => ?_) AllReadyH.nil
      have y4 : wv.cell? ⟨X, k * 128 + n0 * 8 + 4, none⟩ = some (.int .i64 eoff) := X5.out.ent HK.out.2 Hx.out (j := 4) rfl
      have yf4 := X5.out.free (k * 128 + n0 * 8 + 4)
      have hgy : wv.grownBy (wv.setCell ⟨X, k * 128 + n0 * 8 + 4, none⟩ (.int .i64 (n + eoff))) (some X) := grown_setCell _ _ _ _
      have Y6 : Hid (OpnAt (wv.setCell ⟨X, k * 128 + n0 * 8 + 4, none⟩ (.int .i64 (n + eoff))) Y ⟨1, emak, ebn, enum, eoff, erd, ewr, eap⟩) := (hgy.block _ (lt_of_heap Y5.out) (by have := HY.out.2; simp; omega)).trans Y5.out
      clear hgy
      have hg : wv.grownBy (wv.setCell ⟨X, k * 128 + n0 * 8 + 4, none⟩ (.int .i64 (n + eoff))) (some X) := grown_setCell _ _ _ _
      have B6 := Lib.hid (B5.out.kept (hg.block _ B5.out.lt (by have := Hxl.out; simp; omega)))
      have R6 := Lib.hid (R5.out.kept (hg.block _ R5.out.1.lt (by have := Hxl.out; simp; omega)))
      have X6 : Hid (ModAt (wv.setCell ⟨X, k * 128 + n0 * 8 + 4, none⟩ (.int .i64 (n + eoff))) X ⟨m.tabs.set k ((mTab m k).set n0 (atO ⟨1, emak, ebn, enum, eoff, erd, ewr, eap⟩ (n + eoff))), m.there⟩) := X5.out.setOff HK.out.2 Hx.out _
      have HG6 : Hid (Kept (fun k => k = X) w (wv.setCell ⟨X, k * 128 + n0 * 8 + 4, none⟩ (.int .i64 (n + eoff)))) := HG5.out.trans (Kept.of_grown hg (fun k => k = X) (fun k hk => (Option.some.inj hk).symm)) (fun _ _ h => h)
      clear hg
      go_simp
      refine hK.out _ _ (B6.out) (fun hHeld1 => ?_)
      clear hK K hHeld0
      try simp only [Act.put, List.setIfInBounds_toArray, List.set_cons_zero, List.set_cons_succ, List.getElem_toArray, List.getElem_cons_zero, List.getElem_cons_succ]
      refine wpAnyH_done (by kernel_rfl) ?_ _
      clear y4 yf4 B5 R5 X5 HG5 Y5
      go_upto_region 80 with fail
      obtain ⟨w6, hwn⟩ : ∃ x, (wv.setCell ⟨X, k * 128 + n0 * 8 + 4, none⟩ (.int .i64 (n + eoff))) = x := ⟨_, rfl⟩
      rw [hwn] at B6 R6 X6 HG6 Y6 ⊢
      clear hwn
      have Y7 : Hid (OpnAt w6.drew Y ⟨1, emak, ebn, enum, eoff, erd, ewr, eap⟩) := Y6.out
      have hbd : Below w6.heap.size w6 w6.drew := (Below.refl _ _).drew
      have B7 := Lib.hid (B6.out.later hbd)
      have R7 := Lib.hid (R6.out.later hbd)
      have X7 := Lib.hid (X6.out.later hbd)
      have HG7 : Hid (Kept (fun k => k = X) w w6.drew) := HG6.out.trans (Kept.of_below hbd (fun _ => False)) (fun _ _ h => h.elim)
      clear hbd B6 R6 X6 HG6
      refine wp_region_held_drew (S := (fun W => OpnAt W Y ⟨1, emak, ebn, enum, eoff, erd, ewr, eap⟩)) (by kernel_rfl) (Y7.out) (fun hHeld0 => ?_)
      obtain ⟨wv, hwn⟩ : ∃ x, w6.drew = x := ⟨_, rfl⟩
      rw [hwn] at B7 R7 X7 HG7 Y7 hHeld0 ⊢
      clear hwn
      refine wpAnyH_take (i := 0) (v := ?_) rfl (by kernel_rfl) (by kernel_rfl) (by kernel_rfl) (fun _ _ _ h => h) (Or.inl ⟨by rfl, ?_⟩) (by assumption) ?_
      rotate_left
      · (intro wx hSw; (try dsimp only at hSw); go_simp <;> with_reducible rfl)
      try simp only [Act.put, List.setIfInBounds_toArray, List.set_cons_zero, List.set_cons_succ, List.getElem_toArray, List.getElem_cons_zero, List.getElem_cons_succ]
      refine wpAnyH_take (i := 1) (v := ?_) rfl (by kernel_rfl) (by kernel_rfl) (by kernel_rfl) (fun _ _ _ h => h) (Or.inl ⟨by rfl, ?_⟩) (by assumption) ?_
      rotate_left
      · (intro wx hSw; (try dsimp only at hSw); go_simp <;> with_reducible rfl)
      try simp only [Act.put, List.setIfInBounds_toArray, List.set_cons_zero, List.set_cons_succ, List.getElem_toArray, List.getElem_cons_zero, List.getElem_cons_succ]
      refine wpAnyH_take (i := 2) (v := ?_) rfl (by kernel_rfl) (by kernel_rfl) (by kernel_rfl) (fun _ _ _ h => h) (Or.inl ⟨by rfl, ?_⟩) (by assumption) ?_
      rotate_left
      · (intro wx hSw; (try dsimp only at hSw); go_simp <;> with_reducible rfl)
      try simp only [Act.put, List.setIfInBounds_toArray, List.set_cons_zero, List.set_cons_succ, List.getElem_toArray, List.getElem_cons_zero, List.getElem_cons_succ]
      refine wpAnyH_take (i := 3) (v := ?_) rfl (by kernel_rfl) (by kernel_rfl) (by kernel_rfl) (fun _ _ _ h => h) (Or.inl ⟨by rfl, ?_⟩) (by assumption) ?_
      rotate_left
      · (intro wx hSw; (try dsimp only at hSw); obtain ⟨d0, d1, d2, d3, d4, d5, d6, d7⟩ := hSw.cells; go_simp <;> with_reducible rfl)
      try simp only [Act.put, List.setIfInBounds_toArray, List.set_cons_zero, List.set_cons_succ, List.getElem_toArray, List.getElem_cons_zero, List.getElem_cons_succ]
      refine wpAnyH_take (i := 4) (v := .bool bb) rfl (by kernel_rfl) (by kernel_rfl) (by kernel_rfl) (fun _ _ _ h => h) (Or.inl ⟨by rfl, ?_⟩) (by assumption) ?_
      · (intro wx hSw; (try dsimp only at hSw); have hbb := Hbb.out; go_simp)
      try simp only [Act.put, List.setIfInBounds_toArray, List.set_cons_zero, List.set_cons_succ, List.getElem_toArray, List.getElem_cons_zero, List.getElem_cons_succ]
      refine wpAnyH_ready (rs := [5]) (by kernel_rfl) (by simp) ?_
      refine AllReadyH.cons rfl (fun K hK => ?_) AllReadyH.nil
      have hst : (storeCells ⟨w.heap.size + 1, 0, none⟩ Tryz.zeroCells52.toList).run Tryz.prog wv = .ok () (wv.setRow (w.heap.size + 1) (resC (errD 0)).toArray) := by
        rw [zero_res]
        exact R7.out.store rfl
      have hsz : (resC (errD 0)).toArray.size = 138 := by rw [List.size_toArray, resC_len rfl]
      have hg : wv.grownBy (wv.setRow (w.heap.size + 1) (resC (errD 0)).toArray) (some (w.heap.size + 1)) := grown_setRow _ _ _
      have HF : Hid (ResAt (wv.setRow (w.heap.size + 1) (resC (errD 0)).toArray) (w.heap.size + 1) (errD 0)) := R7.out.setRow rfl
      have XF : Hid (ModAt (wv.setRow (w.heap.size + 1) (resC (errD 0)).toArray) X ⟨m.tabs.set k ((mTab m k).set n0 (atO ⟨1, emak, ebn, enum, eoff, erd, ewr, eap⟩ (n + eoff))), m.there⟩) := X7.out.kept (hg.block _ X7.out.1.lt (by have := Hxl.out; simp; omega))
      have GF : Hid (Kept (fun k => k = X) w (wv.setRow (w.heap.size + 1) (resC (errD 0)).toArray)) := HG7.out.trans (Kept.of_grown hg (fun k => k = (w.heap.size + 1)) (fun k hk => (Option.some.inj hk).symm)) (fun i hi e => by omega)
      have YF : Hid (OpnAt (wv.setRow (w.heap.size + 1) (resC (errD 0)).toArray) Y ⟨1, emak, ebn, enum, eoff, erd, ewr, eap⟩) := (hg.block _ (lt_of_heap Y7.out) (by have := HY.out.1; simp; omega)).trans Y7.out
      clear hg
      go_simp
      refine hK.out _ _ (YF.out) (fun hHeld1 => ?_)
      clear hK K hHeld0
      try simp only [Act.put, List.setIfInBounds_toArray, List.set_cons_zero, List.set_cons_succ, List.getElem_toArray, List.getElem_cons_zero, List.getElem_cons_succ]
      refine wpAnyH_take (i := 6) (v := ?_) rfl (by kernel_rfl) (by kernel_rfl) (by kernel_rfl) (fun _ _ _ h => h) (Or.inl ⟨by rfl, ?_⟩) (by assumption) ?_
      rotate_left
      · (intro wx hSw; (try dsimp only at hSw); go_simp <;> with_reducible rfl)
      try simp only [Act.put, List.setIfInBounds_toArray, List.set_cons_zero, List.set_cons_succ, List.getElem_toArray, List.getElem_cons_zero, List.getElem_cons_succ]
      refine wpAnyH_done (by kernel_rfl) ?_ _
      go_wp2
      refine bodyPost_ret (v := .tuple #[resDV (errD 0), .bool bb]) (results_res2 rfl _ _ (w.heap.size + 1) (by rfl) (by rfl) HF.out) rfl ?_
      unfold DoPost
      rw [HP.out]
      exact ⟨rfl, XF.out, GF.out⟩
    · have hkb : ((ekd : Int) != 1) = true := bne_iff_ne.2 hk1
      have HP : Hid (mdo m ⟨kd, who, tw, (n0 : Int), n, ⟨okd, omak, obn, onum, ooff, ord, owr, oap⟩⟩ = (m, errD 11, false)) := by
        refine HP1.out.trans ?_
        rw [HF0.out, if_pos hk1]
        rfl
      clear HP1 HF0
      clear hk1
      have hst := R4.out.store (r' := (errD 11)) rfl
      have hsz : (resC (errD 11)).toArray.size = 138 := by rw [List.size_toArray, resC_len rfl]
      have hg : w5.grownBy (w5.setRow (w.heap.size + 1) (resC (errD 11)).toArray) (some (w.heap.size + 1)) := grown_setRow _ _ _
      have HF : Hid (ResAt (w5.setRow (w.heap.size + 1) (resC (errD 11)).toArray) (w.heap.size + 1) (errD 11)) := R4.out.setRow rfl
      have XF : Hid (ModAt (w5.setRow (w.heap.size + 1) (resC (errD 11)).toArray) X m) := X4.out.kept (hg.block _ X4.out.1.lt (by have := Hxl.out; simp; omega))
      have GF : Hid (Kept (fun k => k = X) w (w5.setRow (w.heap.size + 1) (resC (errD 11)).toArray)) := HG4.out.trans (Kept.of_grown hg (fun k => k = (w.heap.size + 1)) (fun k hk => (Option.some.inj hk).symm)) (fun i hi e => by omega)
      clear hg
      go_wp2
      refine bodyPost_ret (v := .tuple #[resDV (errD 11), .bool false]) (results_res2 rfl _ _ (w.heap.size + 1) (by rfl) (by rfl) HF.out) rfl ?_
      unfold DoPost
      rw [HP.out]
      exact ⟨rfl, XF.out, GF.out⟩
  · have hq' : ((q : Int) != 0) = true := bne_iff_ne.2 (by omega)
    have HP : Hid (mdo m ⟨kd, who, tw, fd, n, ⟨okd, omak, obn, onum, ooff, ord, owr, oap⟩⟩ = (m, errD q, false)) := HP0.out.trans (if_pos h0)
    clear HP0
    clear h0
    have hst := R1.out.store (r' := (errD q)) rfl
    have hsz : (resC (errD q)).toArray.size = 138 := by rw [List.size_toArray, resC_len rfl]
    have hg : w2.grownBy (w2.setRow (w.heap.size + 1) (resC (errD q)).toArray) (some (w.heap.size + 1)) := grown_setRow _ _ _
    have HF : Hid (ResAt (w2.setRow (w.heap.size + 1) (resC (errD q)).toArray) (w.heap.size + 1) (errD q)) := R1.out.setRow rfl
    have XF : Hid (ModAt (w2.setRow (w.heap.size + 1) (resC (errD q)).toArray) X m) := X1.out.kept (hg.block _ X1.out.1.lt (by have := Hxl.out; simp; omega))
    have GF : Hid (Kept (fun k => k = X) w (w2.setRow (w.heap.size + 1) (resC (errD q)).toArray)) := HG1.out.trans (Kept.of_grown hg (fun k => k = (w.heap.size + 1)) (fun k hk => (Option.some.inj hk).symm)) (fun i hi e => by omega)
    clear hg
    go_wp2
    refine bodyPost_ret (v := .tuple #[resDV (errD q), .bool false]) (results_res2 rfl _ _ (w.heap.size + 1) (by rfl) (by rfl) HF.out) rfl ?_
    unfold DoPost
    rw [HP.out]
    exact ⟨rfl, XF.out, GF.out⟩
end Go.Proofs.YtfchfjipkggnkaaGreatDoor
