/- Law 31: the model's do, kinds 4,5,6. (printed by wip/gen_dscme.py) -/
import Derived.Test.YtfchfjipkggnkaaGreatDoorDscMw
import Derived.Test.YtfchfjipkggnkaaGreatDoorDscCk
import Derived.Deep.QuietTactic
import Derived.BigQuiet
import Derived.IntWalk
import Derived.Deep.RegionHeld3
namespace Go.Proofs.YtfchfjipkggnkaaGreatDoor
open Go.RowKit
attribute [local go_sem ↓] run_eql_opn run_neq_opn Go.wp_at_zero Go.wp_at_succ
attribute [local go_sem ↓] bld_O bld_E bld_N bld_12 bld_13 bld_9 bld_21 bld_11 bld_2

set_option linter.unusedSimpArgs false in
set_option maxRecDepth 100000 in
set_option maxHeartbeats 25600000 in
theorem mdo_4 (kd who tw : Nat) (fd n okd : Int) (omak : ByteArray) (obn onum ooff : Int) (ord owr oap : Bool) (X : Nat) (m : ModD) (w : World) (hX : ModAt w X m) (hk : kd < 256) (hw : who < 256) (ht : tw < 256) (hd : -9223372036854775808 ≤ n ∧ n ≤ 9223372036854775807) (hmk : omak.size ≤ 70368744177664) (hTE : ∀ t ∈ m.tabs, tabE t = 0) (hm : kd % 11 = 4) :
    Calls Tryz.prog 21 #[.pointer (some ⟨X, 0, none⟩), .agg #[.int .u8 kd, .int .u8 who, .int .u8 tw, .int .i64 fd, .int .i64 n, .int .i64 okd, .string omak, .int .i64 obn, .int .i64 onum, .int .i64 ooff, .bool ord, .bool owr, .bool oap]] w (DoPost w X (mdo m ⟨kd, who, tw, fd, n, ⟨okd, omak, obn, onum, ooff, ord, owr, oap⟩⟩)) := by
  have HX : Hid (∀ W, Below w.heap.size w W → ModAt W X m) := fun W h => hX.later h
  have Hxl : Hid (X < w.heap.size) := hX.1.lt
  have HB0 : Hid (Below w.heap.size w ((w.alloc (.cells #[.int .u8 kd, .int .u8 who, .int .u8 tw, .int .i64 fd, .int .i64 n, .int .i64 okd, .string omak, .int .i64 obn, .int .i64 onum, .int .i64 ooff, .bool ord, .bool owr, .bool oap] 49)).alloc (.cells Tryz.zeroCells52 52))) := ((Below.refl _ _).alloc (Nat.le_refl _) _).alloc (by simp) _
  have B0 : Hid (RowIs ((w.alloc (.cells #[.int .u8 kd, .int .u8 who, .int .u8 tw, .int .i64 fd, .int .i64 n, .int .i64 okd, .string omak, .int .i64 obn, .int .i64 onum, .int .i64 ooff, .bool ord, .bool owr, .bool oap] 49)).alloc (.cells Tryz.zeroCells52 52)) w.heap.size 49 [.int .u8 kd, .int .u8 who, .int .u8 tw, .int .i64 fd, .int .i64 n, .int .i64 okd, .string omak, .int .i64 obn, .int .i64 onum, .int .i64 ooff, .bool ord, .bool owr, .bool oap]) := (new_row w 49 [.int .u8 kd, .int .u8 who, .int .u8 tw, .int .i64 fd, .int .i64 n, .int .i64 okd, .string omak, .int .i64 obn, .int .i64 onum, .int .i64 ooff, .bool ord, .bool owr, .bool oap]).later ((Below.refl _ _).alloc (Nat.le_refl _) _)
  have R0 : Hid (ResAt ((w.alloc (.cells #[.int .u8 kd, .int .u8 who, .int .u8 tw, .int .i64 fd, .int .i64 n, .int .i64 okd, .string omak, .int .i64 obn, .int .i64 onum, .int .i64 ooff, .bool ord, .bool owr, .bool oap] 49)).alloc (.cells Tryz.zeroCells52 52)) (w.heap.size + 1) (errD 0)) := by
    have := new_res (w.alloc (.cells #[.int .u8 kd, .int .u8 who, .int .u8 tw, .int .i64 fd, .int .i64 n, .int .i64 okd, .string omak, .int .i64 obn, .int .i64 onum, .int .i64 ooff, .bool ord, .bool owr, .bool oap] 49))
    rw [World.size_alloc] at this
    exact this
  have X0 := Lib.hid (HX.out _ HB0.out)
  obtain ⟨k, hk4⟩ : ∃ k : Nat, who % 4 = k := ⟨_, rfl⟩
  obtain ⟨i, hi4⟩ : ∃ i : Nat, tw % 4 = i := ⟨_, rfl⟩
  have HK : Hid (who % 4 = k ∧ k < 4) := ⟨hk4, by omega⟩
  have HI : Hid (tw % 4 = i ∧ i < 4) := ⟨hi4, by omega⟩
  have htk : (who : Int).tmod 4 = (k : Int) := by rw [Int.tmod_eq_emod_of_nonneg (by omega)]; omega
  have hti : (tw : Int).tmod 4 = (i : Int) := by rw [Int.tmod_eq_emod_of_nonneg (by omega)]; omega
  have k0 : (0 : Int) ≤ (k : Int) := by omega
  have k1 : (k : Int) < 4 := by omega
  have i0 : (0 : Int) ≤ (i : Int) := by omega
  have i1 : (i : Int) < 4 := by omega
  have Hd := Lib.hid hd
  have Hmk := Lib.hid hmk
  have HTE := Lib.hid hTE
  have hkn : (0 : Int) ≤ (kd : Int) := by omega
  have hkx : (kd : Int) ≤ 255 := by omega
  have hwn : (0 : Int) ≤ (who : Int) := by omega
  have hwx : (who : Int) ≤ 255 := by omega
  have htn : (0 : Int) ≤ (tw : Int) := by omega
  have htx : (tw : Int) ≤ 255 := by omega
  have HM := Lib.hid hm
  clear hd hmk hTE hk4 hi4 hX hm
  go_enter Tryz.func21, Tryz.ntmps21
  go_upto_region 1 with fail
  obtain ⟨w1, hw1⟩ : ∃ w1, ((w.alloc (.cells #[.int .u8 kd, .int .u8 who, .int .u8 tw, .int .i64 fd, .int .i64 n, .int .i64 okd, .string omak, .int .i64 obn, .int .i64 onum, .int .i64 ooff, .bool ord, .bool owr, .bool oap] 49)).alloc (.cells Tryz.zeroCells52 52)) = w1 := ⟨_, rfl⟩
  rw [hw1] at HB0 B0 R0 X0 ⊢
  clear hw1
  have b1 := B0.out.cell (i := 1) rfl
  have b2 := B0.out.cell (i := 2) rfl
  have hi64k : IntKind.i64.wrap (k : Int) = (k : Int) := IntWalk.i64_in _ (by omega)
  have hi64i : IntKind.i64.wrap (i : Int) = (i : Int) := IntWalk.i64_in _ (by omega)
  go_quiet (fail)
  clear b1 b2 htk hti hi64k hi64i
  have hbd : Below w1.heap.size w1 (w1.drewN nq) := ⟨rfl, rfl, rfl, Nat.le_refl _, fun _ _ => rfl⟩
  have HG1 : Hid (Kept (fun k => k = X) w (w1.drewN nq)) := Kept.of_below (HB0.out.trans (hbd.mono HB0.out.size)) _
  have B1 := Lib.hid (B0.out.later hbd)
  have R1 := Lib.hid (R0.out.later hbd)
  have X1 := Lib.hid (X0.out.later hbd)
  clear hbd HB0 B0 R0 X0
  generalize w1.drewN nq = w2 at *
  have hm := HM.out
  have hmi : (kd : Int) % 11 = 4 := by omega
  have HP0 : Hid (mdo m ⟨kd, who, tw, fd, n, ⟨okd, omak, obn, onum, ooff, ord, owr, oap⟩⟩ = mOne m k (getF fd)) := by
    show _ = _
    rw [mD4 (o := ⟨kd, who, tw, fd, n, ⟨okd, omak, obn, onum, ooff, ord, owr, oap⟩⟩) hm]
    dsimp only
    rw [HK.out.1]
  clear HM hm
  have b0 := B1.out.cell (i := 0) rfl
  have b3 := B1.out.cell (i := 3) rfl
  have b4 := B1.out.cell (i := 4) rfl
  have HP1 := Lib.hid (HP0.out.trans (get_one m k fd (getF fd) (fun t h => if_pos h)))
  clear HP0
  have HP0 := HP1
  clear HP1
  obtain ⟨q, hq⟩ : ∃ q, mGetE m k fd = q := ⟨_, rfl⟩
  have hc := mGet_any X1.out HK.out.2 fd
  rw [hq] at hc HP0
  have HC := Lib.hid hc
  have Hq := Lib.hid hq
  clear hc hq
  go_wp2_with fail
  refine HC.out.mono ?_
  rintro r w3 ⟨rfl, rfl⟩
  clear HC
  by_cases h0 : q = 0
  · subst h0
    obtain ⟨hth, hbd⟩ := mGet_ok Hq.out
    obtain ⟨f0, f1, hz⟩ := badD_no hbd
    obtain ⟨n0, rfl⟩ := Int.eq_ofNat_of_zero_le (show 0 ≤ fd by omega)
    have hn16 : n0 < 16 := by omega
    have Hn := Lib.hid hn16
    obtain ⟨x, hx⟩ := ent_some (X1.out.2.tl k) hn16
    have he : entD (mTab m k) (n0 : Int) = x := by unfold entD; rw [List.getD_eq_getElem?_getD, show ((n0 : Nat) : Int).toNat = n0 from rfl, hx]; rfl
    rw [he] at hz
    obtain ⟨ekd, emak, ebn, enum, eoff, erd, ewr, eap⟩ := x
    have Hx := Lib.hid hx
    have j0 : (0 : Int) ≤ (n0 : Int) := by omega
    have j1 : ((n0 : Nat) : Int) < 16 := by omega
    have HP : Hid (mdo m ⟨kd, who, tw, (n0 : Int), n, ⟨okd, omak, obn, onum, ooff, ord, owr, oap⟩⟩ = (m, ⟨zeroTab, ⟨ekd, emak, ebn, enum, eoff, erd, ewr, eap⟩, 0, 0⟩, false)) := by
      refine HP0.out.trans ((if_neg (by simp)).trans ?_)
      unfold getF
      rw [if_neg (by rw [hbd]; decide), he]
      rfl
    clear HP0 hz he hx hbd f0 f1 hn16
    go_upto_region 37 with fail
    clear b0 b3 b4
    have hbd : Below w2.heap.size w2 w2.drew := (Below.refl _ _).drew
    have B2 := Lib.hid (B1.out.later hbd)
    have R2 := Lib.hid (R1.out.later hbd)
    have X2 := Lib.hid (X1.out.later hbd)
    have HG2 : Hid (Kept (fun k => k = X) w w2.drew) := HG1.out.trans (Kept.of_below hbd (fun _ => False)) (fun _ _ h => h.elim)
    clear hbd B1 R1 X1 HG1
    refine wp_region_held_drew (S := (fun W => RowIs W w.heap.size 49 [.int .u8 kd, .int .u8 who, .int .u8 tw, .int .i64 (n0 : Int), .int .i64 n, .int .i64 okd, .string omak, .int .i64 obn, .int .i64 onum, .int .i64 ooff, .bool ord, .bool owr, .bool oap] ∧ ModAt W X m)) (by kernel_rfl) (⟨B2.out, X2.out⟩) (fun hHeld0 => ?_)
    obtain ⟨wv, hwn⟩ : ∃ x, w2.drew = x := ⟨_, rfl⟩
    rw [hwn] at B2 R2 X2 HG2 hHeld0 ⊢
    clear hwn
    refine wpAnyH_take (i := 0) (v := ?_) rfl (by kernel_rfl) (by kernel_rfl) (by kernel_rfl) (fun _ _ _ h => h) (Or.inl ⟨by rfl, ?_⟩) (by assumption) ?_
    rotate_left
    · (intro wx hSw; (try dsimp only at hSw); go_simp <;> with_reducible rfl)
    try simp only [Act.put, List.setIfInBounds_toArray, List.set_cons_zero, List.set_cons_succ, List.getElem_toArray, List.getElem_cons_zero, List.getElem_cons_succ]
    refine wpAnyH_take (i := 1) (v := ?_) rfl (by kernel_rfl) (by kernel_rfl) (by kernel_rfl) (fun _ _ _ h => h) (Or.inl ⟨by rfl, ?_⟩) (by assumption) ?_
    rotate_left
    · (intro wx hSw; (try dsimp only at hSw); go_simp <;> with_reducible rfl)
    try simp only [Act.put, List.setIfInBounds_toArray, List.set_cons_zero, List.set_cons_succ, List.getElem_toArray, List.getElem_cons_zero, List.getElem_cons_succ]
    refine wpAnyH_take (i := 2) (v := ?_) rfl (by kernel_rfl) (by kernel_rfl) (by kernel_rfl) (fun _ _ _ h => h) (Or.inl ⟨by rfl, ?_⟩) (by assumption) ?_
    rotate_left
    · (intro wx hSw; (try dsimp only at hSw); go_simp <;> with_reducible rfl)
    try simp only [Act.put, List.setIfInBounds_toArray, List.set_cons_zero, List.set_cons_succ, List.getElem_toArray, List.getElem_cons_zero, List.getElem_cons_succ]
    refine wpAnyH_take (i := 3) (v := ?_) rfl (by kernel_rfl) (by kernel_rfl) (by kernel_rfl) (fun _ _ _ h => h) (Or.inl ⟨by rfl, ?_⟩) (by assumption) ?_
    rotate_left
    · (intro wx hSw; (try dsimp only at hSw); have c3 := hSw.1.cell (i := 3) rfl; go_simp <;> with_reducible rfl)
    try simp only [Act.put, List.setIfInBounds_toArray, List.set_cons_zero, List.set_cons_succ, List.getElem_toArray, List.getElem_cons_zero, List.getElem_cons_succ]
    refine wpAnyH_take (i := 4) (v := ?_) rfl (by kernel_rfl) (by kernel_rfl) (by kernel_rfl) (fun _ _ _ h => h) (Or.inl ⟨by rfl, ?_⟩) (by assumption) ?_
    rotate_left
    · (intro wx hSw; (try dsimp only at hSw); go_simp <;> with_reducible rfl)
    try simp only [Act.put, List.setIfInBounds_toArray, List.set_cons_zero, List.set_cons_succ, List.getElem_toArray, List.getElem_cons_zero, List.getElem_cons_succ]
    refine wpAnyH_take (i := 5) (v := ?_) rfl (by kernel_rfl) (by kernel_rfl) (by kernel_rfl) (fun _ _ _ h => h) (Or.inl ⟨by rfl, ?_⟩) (by assumption) ?_
    rotate_left
    · (intro wx hSw; (try dsimp only at hSw); go_simp <;> with_reducible rfl)
    try simp only [Act.put, List.setIfInBounds_toArray, List.set_cons_zero, List.set_cons_succ, List.getElem_toArray, List.getElem_cons_zero, List.getElem_cons_succ]
    refine wpAnyH_take (i := 6) (v := ?_) rfl (by kernel_rfl) (by kernel_rfl) (by kernel_rfl) (fun _ _ _ h => h) (Or.inl ⟨by rfl, ?_⟩) (by assumption) ?_
    rotate_left
    · (intro wx hSw; (try dsimp only at hSw); go_simp <;> with_reducible rfl)
    try simp only [Act.put, List.setIfInBounds_toArray, List.set_cons_zero, List.set_cons_succ, List.getElem_toArray, List.getElem_cons_zero, List.getElem_cons_succ]
    refine wpAnyH_take (i := 7) (v := ?_) rfl (by kernel_rfl) (by kernel_rfl) (by kernel_rfl) (fun _ _ _ h => h) (Or.inl ⟨by rfl, ?_⟩) (by assumption) ?_
    rotate_left
    · (intro wx hSw; (try dsimp only at hSw); go_simp <;> with_reducible rfl)
    try simp only [Act.put, List.setIfInBounds_toArray, List.set_cons_zero, List.set_cons_succ, List.getElem_toArray, List.getElem_cons_zero, List.getElem_cons_succ]
    refine wpAnyH_take (i := 8) (v := ?_) rfl (by kernel_rfl) (by kernel_rfl) (by kernel_rfl) (fun _ _ _ h => h) (Or.inl ⟨by rfl, ?_⟩) (by assumption) ?_
    rotate_left
    · (intro wx hSw; (try dsimp only at hSw); have z0 : wx.cell? ⟨X, k * 128 + n0 * 8, none⟩ = some (.int .i64 ekd) := hSw.2.ent HK.out.2 Hx.out (j := 0) rfl; have z1 : wx.cell? ⟨X, k * 128 + n0 * 8 + 1, none⟩ = some (.string emak) := hSw.2.ent HK.out.2 Hx.out (j := 1) rfl; have z2 : wx.cell? ⟨X, k * 128 + n0 * 8 + 2, none⟩ = some (.int .i64 ebn) := hSw.2.ent HK.out.2 Hx.out (j := 2) rfl; have z3 : wx.cell? ⟨X, k * 128 + n0 * 8 + 3, none⟩ = some (.int .i64 enum) := hSw.2.ent HK.out.2 Hx.out (j := 3) rfl; have z4 : wx.cell? ⟨X, k * 128 + n0 * 8 + 4, none⟩ = some (.int .i64 eoff) := hSw.2.ent HK.out.2 Hx.out (j := 4) rfl; have z5 : wx.cell? ⟨X, k * 128 + n0 * 8 + 5, none⟩ = some (.bool erd) := hSw.2.ent HK.out.2 Hx.out (j := 5) rfl; have z6 : wx.cell? ⟨X, k * 128 + n0 * 8 + 6, none⟩ = some (.bool ewr) := hSw.2.ent HK.out.2 Hx.out (j := 6) rfl; have z7 : wx.cell? ⟨X, k * 128 + n0 * 8 + 7, none⟩ = some (.bool eap) := hSw.2.ent HK.out.2 Hx.out (j := 7) rfl; go_simp <;> with_reducible rfl)
    try simp only [Act.put, List.setIfInBounds_toArray, List.set_cons_zero, List.set_cons_succ, List.getElem_toArray, List.getElem_cons_zero, List.getElem_cons_succ]
    refine wpAnyH_take (i := 9) (v := ?_) rfl (by kernel_rfl) (by kernel_rfl) (by kernel_rfl) (fun _ _ _ h => h) (Or.inl ⟨by rfl, ?_⟩) (by assumption) ?_
    rotate_left
    · (intro wx hSw; (try dsimp only at hSw); go_simp <;> with_reducible rfl)
    try simp only [Act.put, List.setIfInBounds_toArray, List.set_cons_zero, List.set_cons_succ, List.getElem_toArray, List.getElem_cons_zero, List.getElem_cons_succ]
    refine wpAnyH_ready (rs := [10]) (by kernel_rfl) (by simp) ?_
    refine AllReadyH.cons rfl (fun K hK => ?_) AllReadyH.nil
    have hst := R2.out.store (r' := ⟨zeroTab, ⟨ekd, emak, ebn, enum, eoff, erd, ewr, eap⟩, 0, 0⟩) rfl
    have hsz : (resC ⟨zeroTab, ⟨ekd, emak, ebn, enum, eoff, erd, ewr, eap⟩, 0, 0⟩).toArray.size = 138 := by rw [List.size_toArray, resC_len rfl]
    have hg : wv.grownBy (wv.setRow (w.heap.size + 1) (resC ⟨zeroTab, ⟨ekd, emak, ebn, enum, eoff, erd, ewr, eap⟩, 0, 0⟩).toArray) (some (w.heap.size + 1)) := grown_setRow _ _ _
    have HF : Hid (ResAt (wv.setRow (w.heap.size + 1) (resC ⟨zeroTab, ⟨ekd, emak, ebn, enum, eoff, erd, ewr, eap⟩, 0, 0⟩).toArray) (w.heap.size + 1) ⟨zeroTab, ⟨ekd, emak, ebn, enum, eoff, erd, ewr, eap⟩, 0, 0⟩) := R2.out.setRow rfl
    have XF : Hid (ModAt (wv.setRow (w.heap.size + 1) (resC ⟨zeroTab, ⟨ekd, emak, ebn, enum, eoff, erd, ewr, eap⟩, 0, 0⟩).toArray) X m) := X2.out.kept (hg.block _ X2.out.1.lt (by have := Hxl.out; simp; omega))
    have GF : Hid (Kept (fun k => k = X) w (wv.setRow (w.heap.size + 1) (resC ⟨zeroTab, ⟨ekd, emak, ebn, enum, eoff, erd, ewr, eap⟩, 0, 0⟩).toArray)) := HG2.out.trans (Kept.of_grown hg (fun k => k = (w.heap.size + 1)) (fun k hk => (Option.some.inj hk).symm)) (fun i hi e => by omega)
    have BF := Lib.hid (B2.out.kept (hg.block _ B2.out.lt (by simp)))
    clear hg
    go_simp
    refine hK.out _ _ (⟨BF.out, XF.out⟩) (fun hHeld1 => ?_)
    clear hK K hHeld0
    try simp only [Act.put, List.setIfInBounds_toArray, List.set_cons_zero, List.set_cons_succ, List.getElem_toArray, List.getElem_cons_zero, List.getElem_cons_succ]
    refine wpAnyH_take (i := 11) (v := ?_) rfl (by kernel_rfl) (by kernel_rfl) (by kernel_rfl) (fun _ _ _ h => h) (Or.inl ⟨by rfl, ?_⟩) (by assumption) ?_
    rotate_left
    · (intro wx hSw; (try dsimp only at hSw); go_simp <;> with_reducible rfl)
    try simp only [Act.put, List.setIfInBounds_toArray, List.set_cons_zero, List.set_cons_succ, List.getElem_toArray, List.getElem_cons_zero, List.getElem_cons_succ]
    refine wpAnyH_done (by kernel_rfl) ?_ _
    go_wp2
    refine bodyPost_ret (v := .tuple #[resDV ⟨zeroTab, ⟨ekd, emak, ebn, enum, eoff, erd, ewr, eap⟩, 0, 0⟩, .bool false]) (results_res2 rfl _ _ (w.heap.size + 1) (by rfl) (by rfl) HF.out) rfl ?_
    unfold DoPost
    rw [HP.out]
    exact ⟨rfl, XF.out, GF.out⟩
  · have hq' : ((q : Int) != 0) = true := bne_iff_ne.2 (by omega)
    have HP : Hid (mdo m ⟨kd, who, tw, fd, n, ⟨okd, omak, obn, onum, ooff, ord, owr, oap⟩⟩ = (m, errD q, false)) := HP0.out.trans (if_pos h0)
    clear HP0
    clear h0
    have hst := R1.out.store (r' := (errD q)) rfl
    have hsz : (resC (errD q)).toArray.size = 138 := by rw [List.size_toArray, resC_len rfl]
    have hg : w2.grownBy (w2.setRow (w.heap.size + 1) (resC (errD q)).toArray) (some (w.heap.size + 1)) := grown_setRow _ _ _
    have HF : Hid (ResAt (w2.setRow (w.heap.size + 1) (resC (errD q)).toArray) (w.heap.size + 1) (errD q)) := R1.out.setRow rfl
    have XF : Hid (ModAt (w2.setRow (w.heap.size + 1) (resC (errD q)).toArray) X m) := X1.out.kept (hg.block _ X1.out.1.lt (by have := Hxl.out; simp; omega))
    have GF : Hid (Kept (fun k => k = X) w (w2.setRow (w.heap.size + 1) (resC (errD q)).toArray)) := HG1.out.trans (Kept.of_grown hg (fun k => k = (w.heap.size + 1)) (fun k hk => (Option.some.inj hk).symm)) (fun i hi e => by omega)
    clear hg
    go_wp2
    refine bodyPost_ret (v := .tuple #[resDV (errD q), .bool false]) (results_res2 rfl _ _ (w.heap.size + 1) (by rfl) (by rfl) HF.out) rfl ?_
    unfold DoPost
    rw [HP.out]
    exact ⟨rfl, XF.out, GF.out⟩
set_option linter.unusedSimpArgs false in
set_option maxRecDepth 100000 in
set_option maxHeartbeats 25600000 in
theorem mdo_5 (kd who tw : Nat) (fd n okd : Int) (omak : ByteArray) (obn onum ooff : Int) (ord owr oap : Bool) (X : Nat) (m : ModD) (w : World) (hX : ModAt w X m) (hk : kd < 256) (hw : who < 256) (ht : tw < 256) (hd : -9223372036854775808 ≤ n ∧ n ≤ 9223372036854775807) (hmk : omak.size ≤ 70368744177664) (hTE : ∀ t ∈ m.tabs, tabE t = 0) (hm : kd % 11 = 5) :
    Calls Tryz.prog 21 #[.pointer (some ⟨X, 0, none⟩), .agg #[.int .u8 kd, .int .u8 who, .int .u8 tw, .int .i64 fd, .int .i64 n, .int .i64 okd, .string omak, .int .i64 obn, .int .i64 onum, .int .i64 ooff, .bool ord, .bool owr, .bool oap]] w (DoPost w X (mdo m ⟨kd, who, tw, fd, n, ⟨okd, omak, obn, onum, ooff, ord, owr, oap⟩⟩)) := by
  have HX : Hid (∀ W, Below w.heap.size w W → ModAt W X m) := fun W h => hX.later h
  have Hxl : Hid (X < w.heap.size) := hX.1.lt
  have HB0 : Hid (Below w.heap.size w ((w.alloc (.cells #[.int .u8 kd, .int .u8 who, .int .u8 tw, .int .i64 fd, .int .i64 n, .int .i64 okd, .string omak, .int .i64 obn, .int .i64 onum, .int .i64 ooff, .bool ord, .bool owr, .bool oap] 49)).alloc (.cells Tryz.zeroCells52 52))) := ((Below.refl _ _).alloc (Nat.le_refl _) _).alloc (by simp) _
  have B0 : Hid (RowIs ((w.alloc (.cells #[.int .u8 kd, .int .u8 who, .int .u8 tw, .int .i64 fd, .int .i64 n, .int .i64 okd, .string omak, .int .i64 obn, .int .i64 onum, .int .i64 ooff, .bool ord, .bool owr, .bool oap] 49)).alloc (.cells Tryz.zeroCells52 52)) w.heap.size 49 [.int .u8 kd, .int .u8 who, .int .u8 tw, .int .i64 fd, .int .i64 n, .int .i64 okd, .string omak, .int .i64 obn, .int .i64 onum, .int .i64 ooff, .bool ord, .bool owr, .bool oap]) := (new_row w 49 [.int .u8 kd, .int .u8 who, .int .u8 tw, .int .i64 fd, .int .i64 n, .int .i64 okd, .string omak, .int .i64 obn, .int .i64 onum, .int .i64 ooff, .bool ord, .bool owr, .bool oap]).later ((Below.refl _ _).alloc (Nat.le_refl _) _)
  have R0 : Hid (ResAt ((w.alloc (.cells #[.int .u8 kd, .int .u8 who, .int .u8 tw, .int .i64 fd, .int .i64 n, .int .i64 okd, .string omak, .int .i64 obn, .int .i64 onum, .int .i64 ooff, .bool ord, .bool owr, .bool oap] 49)).alloc (.cells Tryz.zeroCells52 52)) (w.heap.size + 1) (errD 0)) := by
    have := new_res (w.alloc (.cells #[.int .u8 kd, .int .u8 who, .int .u8 tw, .int .i64 fd, .int .i64 n, .int .i64 okd, .string omak, .int .i64 obn, .int .i64 onum, .int .i64 ooff, .bool ord, .bool owr, .bool oap] 49))
    rw [World.size_alloc] at this
    exact this
  have X0 := Lib.hid (HX.out _ HB0.out)
  obtain ⟨k, hk4⟩ : ∃ k : Nat, who % 4 = k := ⟨_, rfl⟩
  obtain ⟨i, hi4⟩ : ∃ i : Nat, tw % 4 = i := ⟨_, rfl⟩
  have HK : Hid (who % 4 = k ∧ k < 4) := ⟨hk4, by omega⟩
  have HI : Hid (tw % 4 = i ∧ i < 4) := ⟨hi4, by omega⟩
  have htk : (who : Int).tmod 4 = (k : Int) := by rw [Int.tmod_eq_emod_of_nonneg (by omega)]; omega
  have hti : (tw : Int).tmod 4 = (i : Int) := by rw [Int.tmod_eq_emod_of_nonneg (by omega)]; omega
  have k0 : (0 : Int) ≤ (k : Int) := by omega
  have k1 : (k : Int) < 4 := by omega
  have i0 : (0 : Int) ≤ (i : Int) := by omega
  have i1 : (i : Int) < 4 := by omega
  have Hd := Lib.hid hd
  have Hmk := Lib.hid hmk
  have HTE := Lib.hid hTE
  have hkn : (0 : Int) ≤ (kd : Int) := by omega
  have hkx : (kd : Int) ≤ 255 := by omega
  have hwn : (0 : Int) ≤ (who : Int) := by omega
  have hwx : (who : Int) ≤ 255 := by omega
  have htn : (0 : Int) ≤ (tw : Int) := by omega
  have htx : (tw : Int) ≤ 255 := by omega
  have HM := Lib.hid hm
  clear hd hmk hTE hk4 hi4 hX hm
  go_enter Tryz.func21, Tryz.ntmps21
  go_upto_region 1 with fail
  obtain ⟨w1, hw1⟩ : ∃ w1, ((w.alloc (.cells #[.int .u8 kd, .int .u8 who, .int .u8 tw, .int .i64 fd, .int .i64 n, .int .i64 okd, .string omak, .int .i64 obn, .int .i64 onum, .int .i64 ooff, .bool ord, .bool owr, .bool oap] 49)).alloc (.cells Tryz.zeroCells52 52)) = w1 := ⟨_, rfl⟩
  rw [hw1] at HB0 B0 R0 X0 ⊢
  clear hw1
  have b1 := B0.out.cell (i := 1) rfl
  have b2 := B0.out.cell (i := 2) rfl
  have hi64k : IntKind.i64.wrap (k : Int) = (k : Int) := IntWalk.i64_in _ (by omega)
  have hi64i : IntKind.i64.wrap (i : Int) = (i : Int) := IntWalk.i64_in _ (by omega)
  go_quiet (fail)
  clear b1 b2 htk hti hi64k hi64i
  have hbd : Below w1.heap.size w1 (w1.drewN nq) := ⟨rfl, rfl, rfl, Nat.le_refl _, fun _ _ => rfl⟩
  have HG1 : Hid (Kept (fun k => k = X) w (w1.drewN nq)) := Kept.of_below (HB0.out.trans (hbd.mono HB0.out.size)) _
  have B1 := Lib.hid (B0.out.later hbd)
  have R1 := Lib.hid (R0.out.later hbd)
  have X1 := Lib.hid (X0.out.later hbd)
  clear hbd HB0 B0 R0 X0
  generalize w1.drewN nq = w2 at *
  have hm := HM.out
  have hmi : (kd : Int) % 11 = 5 := by omega
  have HP0 : Hid (mdo m ⟨kd, who, tw, fd, n, ⟨okd, omak, obn, onum, ooff, ord, owr, oap⟩⟩ = mAdd m k ⟨okd, omak, obn, onum, ooff, ord, owr, oap⟩) := by
    show _ = _
    rw [mD5 (o := ⟨kd, who, tw, fd, n, ⟨okd, omak, obn, onum, ooff, ord, owr, oap⟩⟩) hm]
    dsimp only
    rw [HK.out.1]
  clear HM hm
  have HP1 : Hid (mdo m ⟨kd, who, tw, fd, n, ⟨okd, omak, obn, onum, ooff, ord, owr, oap⟩⟩ = if checkO ⟨okd, omak, obn, onum, ooff, ord, owr, oap⟩ ≠ 0 then (m, errD (checkO ⟨okd, omak, obn, onum, ooff, ord, owr, oap⟩), false) else mOne m k (addF ⟨okd, omak, obn, onum, ooff, ord, owr, oap⟩)) := HP0.out
  clear HP0
  have HP0 := HP1
  clear HP1
  have b0 := B1.out.cell (i := 0) rfl
  have b4 := B1.out.cell (i := 4) rfl
  have b5 := B1.out.cell (i := 5) rfl
  have b6 := B1.out.cell (i := 6) rfl
  have b7 := B1.out.cell (i := 7) rfl
  have b8 := B1.out.cell (i := 8) rfl
  have b9 := B1.out.cell (i := 9) rfl
  have b10 := B1.out.cell (i := 10) rfl
  have b11 := B1.out.cell (i := 11) rfl
  have b12 := B1.out.cell (i := 12) rfl
  obtain ⟨q1, hq1⟩ : ∃ q, checkO ⟨okd, omak, obn, onum, ooff, ord, owr, oap⟩ = q := ⟨_, rfl⟩
  rw [hq1] at HP0
  have Hq1 := Lib.hid hq1
  clear hq1
  go_wp2_with fail
  (with_reducible refine (check31_is okd omak obn onum ooff ord owr oap q1 Hq1.out _ Hmk.out).mono ?_)
  rintro r w3 ⟨rfl, hb⟩
  have B2 := Lib.hid (B1.out.later hb)
  have R2 := Lib.hid (R1.out.later hb)
  have X2 := Lib.hid (X1.out.later hb)
  have HG2 : Hid (Kept (fun k => k = X) w w3) := HG1.out.trans (Kept.of_below hb (fun _ => False)) (fun _ _ h => h.elim)
  clear hb B1 R1 X1 HG1 b0 b4 b5 b6 b7 b8 b9 b10 b11 b12
  by_cases h1 : q1 = 0
  · subst h1
    have HP1 : Hid (mdo m ⟨kd, who, tw, fd, n, ⟨okd, omak, obn, onum, ooff, ord, owr, oap⟩⟩ = if mAll m k ≠ 0 then (m, errD (mAll m k), false) else (mUpd m k (addF ⟨okd, omak, obn, onum, ooff, ord, owr, oap⟩ (mTab m k)).2, (addF ⟨okd, omak, obn, onum, ooff, ord, owr, oap⟩ (mTab m k)).1, (addF ⟨okd, omak, obn, onum, ooff, ord, owr, oap⟩ (mTab m k)).2.isSome)) := HP0.out.trans (if_neg (by simp))
    clear HP0
    have HP0 := HP1
    clear HP1
    have b0 := B2.out.cell (i := 0) rfl
    obtain ⟨q, hq⟩ : ∃ q, mAll m k = q := ⟨_, rfl⟩
    have hc := mAll_any X2.out HK.out.2
    rw [hq] at hc HP0
    have HC := Lib.hid hc
    have Hq := Lib.hid hq
    clear hc hq
    go_wp2_with fail
    refine HC.out.mono ?_
    rintro r w9 ⟨rfl, rfl⟩
    clear HC
    by_cases h0 : q = 0
    · subst h0
      have hl := X2.out.2.tl k
      have hc := mFree_any X2.out HK.out.2
      have Hl := Lib.hid hl
      rcases freeI_cases (mTab m k) hl with ⟨g1, g2⟩ | ⟨j, g1, g2, g3⟩
      · rw [g2] at hc
        have HC := Lib.hid hc
        have Hg1 := Lib.hid g1
        clear hc g1 g2 hl
        go_wp2_with fail
        refine HC.out.mono ?_
        rintro r w9 ⟨rfl, rfl⟩
        clear HC
        have HP : Hid (mdo m ⟨kd, who, tw, fd, n, ⟨okd, omak, obn, onum, ooff, ord, owr, oap⟩⟩ = (m, errD 9, false)) := by
          refine HP0.out.trans ((if_neg (by simp)).trans ?_)
          unfold addF
          rw [Hg1.out]
          rfl
        clear HP0
        have hst := R2.out.store (r' := (errD 9)) rfl
        have hsz : (resC (errD 9)).toArray.size = 138 := by rw [List.size_toArray, resC_len rfl]
        have hg : w3.grownBy (w3.setRow (w.heap.size + 1) (resC (errD 9)).toArray) (some (w.heap.size + 1)) := grown_setRow _ _ _
        have HF : Hid (ResAt (w3.setRow (w.heap.size + 1) (resC (errD 9)).toArray) (w.heap.size + 1) (errD 9)) := R2.out.setRow rfl
        have XF : Hid (ModAt (w3.setRow (w.heap.size + 1) (resC (errD 9)).toArray) X m) := X2.out.kept (hg.block _ X2.out.1.lt (by have := Hxl.out; simp; omega))
        have GF : Hid (Kept (fun k => k = X) w (w3.setRow (w.heap.size + 1) (resC (errD 9)).toArray)) := HG2.out.trans (Kept.of_grown hg (fun k => k = (w.heap.size + 1)) (fun k hk => (Option.some.inj hk).symm)) (fun i hi e => by omega)
        clear hg
        go_wp2
        refine bodyPost_ret (v := .tuple #[resDV (errD 9), .bool false]) (results_res2 rfl _ _ (w.heap.size + 1) (by rfl) (by rfl) HF.out) rfl ?_
        unfold DoPost
        rw [HP.out]
        exact ⟨rfl, XF.out, GF.out⟩
      · rw [g2] at hc
        have HC := Lib.hid hc
        have Hg1 := Lib.hid g1
        obtain ⟨x0, hx0⟩ := ent_some hl g3
        obtain ⟨kd0, mak0, bn0, num0, off0, rd0, wr0, ap0⟩ := x0
        have Hx0 := Lib.hid hx0
        have Hj := Lib.hid g3
        have jj0 : (0 : Int) ≤ (j : Int) := by omega
        have jj1 : (j : Int) < 16 := by omega
        clear hc g1 g2 g3 hl hx0
        go_wp2_with fail
        refine HC.out.mono ?_
        rintro r w9 ⟨rfl, rfl⟩
        clear HC
        have HP : Hid (mdo m ⟨kd, who, tw, fd, n, ⟨okd, omak, obn, onum, ooff, ord, owr, oap⟩⟩ = (⟨m.tabs.set k ((mTab m k).set j ⟨okd, omak, obn, onum, ooff, ord, owr, oap⟩), m.there⟩, ⟨zeroTab, zeroO, (j : Int), 0⟩, true)) := by
          refine HP0.out.trans ((if_neg (by simp)).trans ?_)
          unfold addF
          rw [Hg1.out]
          dsimp only
          rw [upd_there X2.out.2 HK.out.2 (mAll_ok Hq.out).2]
          rfl
        clear HP0
        go_upto_region 50 with fail
        clear b0
        have hbd : Below w3.heap.size w3 w3.drew := (Below.refl _ _).drew
        have B3 := Lib.hid (B2.out.later hbd)
        have R3 := Lib.hid (R2.out.later hbd)
        have X3 := Lib.hid (X2.out.later hbd)
        have HG3 : Hid (Kept (fun k => k = X) w w3.drew) := HG2.out.trans (Kept.of_below hbd (fun _ => False)) (fun _ _ h => h.elim)
        clear hbd B2 R2 X2 HG2
        refine wp_region_held_drew (S := (fun W => RowIs W w.heap.size 49 [.int .u8 kd, .int .u8 who, .int .u8 tw, .int .i64 fd, .int .i64 n, .int .i64 okd, .string omak, .int .i64 obn, .int .i64 onum, .int .i64 ooff, .bool ord, .bool owr, .bool oap])) (by kernel_rfl) (B3.out) (fun hHeld0 => ?_)
        obtain ⟨wv, hwn⟩ : ∃ x, w3.drew = x := ⟨_, rfl⟩
        rw [hwn] at B3 R3 X3 HG3 hHeld0 ⊢
        clear hwn
        refine wpAnyH_take (i := 0) (v := ?_) rfl (by kernel_rfl) (by kernel_rfl) (by kernel_rfl) (fun _ _ _ h => h) (Or.inl ⟨by rfl, ?_⟩) (by assumption) ?_
        rotate_left
        · (intro wx hSw; (try dsimp only at hSw); go_simp <;> with_reducible rfl)
        try simp only [Act.put, List.setIfInBounds_toArray, List.set_cons_zero, List.set_cons_succ, List.getElem_toArray, List.getElem_cons_zero, List.getElem_cons_succ]
        refine wpAnyH_take (i := 1) (v := ?_) rfl (by kernel_rfl) (by kernel_rfl) (by kernel_rfl) (fun _ _ _ h => h) (Or.inl ⟨by rfl, ?_⟩) (by assumption) ?_
        rotate_left
        · (intro wx hSw; (try dsimp only at hSw); go_simp <;> with_reducible rfl)
        try simp only [Act.put, List.setIfInBounds_toArray, List.set_cons_zero, List.set_cons_succ, List.getElem_toArray, List.getElem_cons_zero, List.getElem_cons_succ]
        refine wpAnyH_take (i := 2) (v := ?_) rfl (by kernel_rfl) (by kernel_rfl) (by kernel_rfl) (fun _ _ _ h => h) (Or.inl ⟨by rfl, ?_⟩) (by assumption) ?_
        rotate_left
        · (intro wx hSw; (try dsimp only at hSw); go_simp <;> with_reducible rfl)
        try simp only [Act.put, List.setIfInBounds_toArray, List.set_cons_zero, List.set_cons_succ, List.getElem_toArray, List.getElem_cons_zero, List.getElem_cons_succ]
        refine wpAnyH_take (i := 3) (v := ?_) rfl (by kernel_rfl) (by kernel_rfl) (by kernel_rfl) (fun _ _ _ h => h) (Or.inl ⟨by rfl, ?_⟩) (by assumption) ?_
        rotate_left
        · (intro wx hSw; (try dsimp only at hSw); go_simp <;> with_reducible rfl)
        try simp only [Act.put, List.setIfInBounds_toArray, List.set_cons_zero, List.set_cons_succ, List.getElem_toArray, List.getElem_cons_zero, List.getElem_cons_succ]
        refine wpAnyH_take (i := 4) (v := ?_) rfl (by kernel_rfl) (by kernel_rfl) (by kernel_rfl) (fun _ _ _ h => h) (Or.inl ⟨by rfl, ?_⟩) (by assumption) ?_
        rotate_left
        · (intro wx hSw; (try dsimp only at hSw); have c5 := hSw.cell (i := 5) rfl; have c6 := hSw.cell (i := 6) rfl; have c7 := hSw.cell (i := 7) rfl; have c8 := hSw.cell (i := 8) rfl; have c9 := hSw.cell (i := 9) rfl; have c10 := hSw.cell (i := 10) rfl; have c11 := hSw.cell (i := 11) rfl; have c12 := hSw.cell (i := 12) rfl; go_simp <;> with_reducible rfl)
        try simp only [Act.put, List.setIfInBounds_toArray, List.set_cons_zero, List.set_cons_succ, List.getElem_toArray, List.getElem_cons_zero, List.getElem_cons_succ]
        refine wpAnyH_take (i := 5) (v := ?_) rfl (by kernel_rfl) (by kernel_rfl) (by kernel_rfl) (fun _ _ _ h => h) (Or.inl ⟨by rfl, ?_⟩) (by assumption) ?_
        rotate_left
        · (intro wx hSw; (try dsimp only at hSw); go_simp <;> with_reducible rfl)
        try simp only [Act.put, List.setIfInBounds_toArray, List.set_cons_zero, List.set_cons_succ, List.getElem_toArray, List.getElem_cons_zero, List.getElem_cons_succ]
        refine wpAnyH_take (i := 6) (v := ?_) rfl (by kernel_rfl) (by kernel_rfl) (by kernel_rfl) (fun _ _ _ h => h) (Or.inl ⟨by rfl, ?_⟩) (by assumption) ?_
        rotate_left
        · (intro wx hSw; (try dsimp only at hSw); go_simp <;> with_reducible rfl)
        try simp only [Act.put, List.setIfInBounds_toArray, List.set_cons_zero, List.set_cons_succ, List.getElem_toArray, List.getElem_cons_zero, List.getElem_cons_succ]
        refine wpAnyH_take (i := 7) (v := ?_) rfl (by kernel_rfl) (by kernel_rfl) (by kernel_rfl) (fun _ _ _ h => h) (Or.inl ⟨by rfl, ?_⟩) (by assumption) ?_
        rotate_left
        · (intro wx hSw; (try dsimp only at hSw); go_simp <;> with_reducible rfl)
        try simp only [Act.put, List.setIfInBounds_toArray, List.set_cons_zero, List.set_cons_succ, List.getElem_toArray, List.getElem_cons_zero, List.getElem_cons_succ]
        refine wpAnyH_take (i := 8) (v := ?_) rfl (by kernel_rfl) (by kernel_rfl) (by kernel_rfl) (fun _ _ _ h => h) (Or.inl ⟨by rfl, ?_⟩) (by assumption) ?_
        rotate_left
        · (intro wx hSw; (try dsimp only at hSw); go_simp <;> with_reducible rfl)
        try simp only [Act.put, List.setIfInBounds_toArray, List.set_cons_zero, List.set_cons_succ, List.getElem_toArray, List.getElem_cons_zero, List.getElem_cons_succ]
        refine wpAnyH_ready (rs := [9]) (by kernel_rfl) (by simp) ?_
        refine AllReadyH.cons rfl (fun K hK => ?_) AllReadyH.nil
        have y0 : wv.cell? ⟨X, k * 128 + j * 8, none⟩ = some (.int .i64 kd0) := X3.out.ent HK.out.2 Hx0.out (j := 0) rfl
        have y1 : wv.cell? ⟨X, k * 128 + j * 8 + 1, none⟩ = some (.string mak0) := X3.out.ent HK.out.2 Hx0.out (j := 1) rfl
        have y2 : wv.cell? ⟨X, k * 128 + j * 8 + 2, none⟩ = some (.int .i64 bn0) := X3.out.ent HK.out.2 Hx0.out (j := 2) rfl
        have y3 : wv.cell? ⟨X, k * 128 + j * 8 + 3, none⟩ = some (.int .i64 num0) := X3.out.ent HK.out.2 Hx0.out (j := 3) rfl
        have y4 : wv.cell? ⟨X, k * 128 + j * 8 + 4, none⟩ = some (.int .i64 off0) := X3.out.ent HK.out.2 Hx0.out (j := 4) rfl
        have y5 : wv.cell? ⟨X, k * 128 + j * 8 + 5, none⟩ = some (.bool rd0) := X3.out.ent HK.out.2 Hx0.out (j := 5) rfl
        have y6 : wv.cell? ⟨X, k * 128 + j * 8 + 6, none⟩ = some (.bool wr0) := X3.out.ent HK.out.2 Hx0.out (j := 6) rfl
        have y7 : wv.cell? ⟨X, k * 128 + j * 8 + 7, none⟩ = some (.bool ap0) := X3.out.ent HK.out.2 Hx0.out (j := 7) rfl
        have yf0 := X3.out.free (k * 128 + j * 8)
        have yf1 := X3.out.free (k * 128 + j * 8 + 1)
        have yf2 := X3.out.free (k * 128 + j * 8 + 2)
        have yf3 := X3.out.free (k * 128 + j * 8 + 3)
        have yf4 := X3.out.free (k * 128 + j * 8 + 4)
        have yf5 := X3.out.free (k * 128 + j * 8 + 5)
        have yf6 := X3.out.free (k * 128 + j * 8 + 6)
        have yf7 := X3.out.free (k * 128 + j * 8 + 7)
        have hg : wv.grownBy ((((((((wv.setCell ⟨X, k * 128 + j * 8, none⟩ (.int .i64 okd)).setCell ⟨X, k * 128 + j * 8 + 1, none⟩ (.string omak)).setCell ⟨X, k * 128 + j * 8 + 2, none⟩ (.int .i64 obn)).setCell ⟨X, k * 128 + j * 8 + 3, none⟩ (.int .i64 onum)).setCell ⟨X, k * 128 + j * 8 + 4, none⟩ (.int .i64 ooff)).setCell ⟨X, k * 128 + j * 8 + 5, none⟩ (.bool ord)).setCell ⟨X, k * 128 + j * 8 + 6, none⟩ (.bool owr)).setCell ⟨X, k * 128 + j * 8 + 7, none⟩ (.bool oap)) (some X) := grown_set8 _ _ _ _ _ _ _ _ _ _ _ _ _ _ _ _ _ _
        have B4 := Lib.hid (B3.out.kept (hg.block _ B3.out.lt (by have := Hxl.out; simp; omega)))
        have R4 := Lib.hid (R3.out.kept (hg.block _ R3.out.1.lt (by have := Hxl.out; simp; omega)))
        have X4 : Hid (ModAt ((((((((wv.setCell ⟨X, k * 128 + j * 8, none⟩ (.int .i64 okd)).setCell ⟨X, k * 128 + j * 8 + 1, none⟩ (.string omak)).setCell ⟨X, k * 128 + j * 8 + 2, none⟩ (.int .i64 obn)).setCell ⟨X, k * 128 + j * 8 + 3, none⟩ (.int .i64 onum)).setCell ⟨X, k * 128 + j * 8 + 4, none⟩ (.int .i64 ooff)).setCell ⟨X, k * 128 + j * 8 + 5, none⟩ (.bool ord)).setCell ⟨X, k * 128 + j * 8 + 6, none⟩ (.bool owr)).setCell ⟨X, k * 128 + j * 8 + 7, none⟩ (.bool oap)) X ⟨m.tabs.set k ((mTab m k).set j ⟨okd, omak, obn, onum, ooff, ord, owr, oap⟩), m.there⟩) := X3.out.setEnt HK.out.2 Hj.out ⟨okd, omak, obn, onum, ooff, ord, owr, oap⟩
        have HG4 : Hid (Kept (fun k => k = X) w ((((((((wv.setCell ⟨X, k * 128 + j * 8, none⟩ (.int .i64 okd)).setCell ⟨X, k * 128 + j * 8 + 1, none⟩ (.string omak)).setCell ⟨X, k * 128 + j * 8 + 2, none⟩ (.int .i64 obn)).setCell ⟨X, k * 128 + j * 8 + 3, none⟩ (.int .i64 onum)).setCell ⟨X, k * 128 + j * 8 + 4, none⟩ (.int .i64 ooff)).setCell ⟨X, k * 128 + j * 8 + 5, none⟩ (.bool ord)).setCell ⟨X, k * 128 + j * 8 + 6, none⟩ (.bool owr)).setCell ⟨X, k * 128 + j * 8 + 7, none⟩ (.bool oap))) := HG3.out.trans (Kept.of_grown hg (fun k => k = X) (fun k hk => (Option.some.inj hk).symm)) (fun _ _ h => h)
        clear hg
        go_simp
        refine hK.out _ _ (B4.out) (fun hHeld1 => ?_)
        clear hK K hHeld0
        try simp only [Act.put, List.setIfInBounds_toArray, List.set_cons_zero, List.set_cons_succ, List.getElem_toArray, List.getElem_cons_zero, List.getElem_cons_succ]
        refine wpAnyH_done (by kernel_rfl) ?_ _
        clear y0 yf0 y1 yf1 y2 yf2 y3 yf3 y4 yf4 y5 yf5 y6 yf6 y7 yf7
        obtain ⟨wy, hwn⟩ : ∃ x, ((((((((wv.setCell ⟨X, k * 128 + j * 8, none⟩ (.int .i64 okd)).setCell ⟨X, k * 128 + j * 8 + 1, none⟩ (.string omak)).setCell ⟨X, k * 128 + j * 8 + 2, none⟩ (.int .i64 obn)).setCell ⟨X, k * 128 + j * 8 + 3, none⟩ (.int .i64 onum)).setCell ⟨X, k * 128 + j * 8 + 4, none⟩ (.int .i64 ooff)).setCell ⟨X, k * 128 + j * 8 + 5, none⟩ (.bool ord)).setCell ⟨X, k * 128 + j * 8 + 6, none⟩ (.bool owr)).setCell ⟨X, k * 128 + j * 8 + 7, none⟩ (.bool oap)) = x := ⟨_, rfl⟩
        rw [hwn] at B4 R4 X4 HG4 ⊢
        clear hwn
        have hst := R4.out.store (r' := ⟨zeroTab, zeroO, (j : Int), 0⟩) rfl
        have hsz : (resC ⟨zeroTab, zeroO, (j : Int), 0⟩).toArray.size = 138 := by rw [List.size_toArray, resC_len rfl]
        have hg : wy.grownBy (wy.setRow (w.heap.size + 1) (resC ⟨zeroTab, zeroO, (j : Int), 0⟩).toArray) (some (w.heap.size + 1)) := grown_setRow _ _ _
        have HF : Hid (ResAt (wy.setRow (w.heap.size + 1) (resC ⟨zeroTab, zeroO, (j : Int), 0⟩).toArray) (w.heap.size + 1) ⟨zeroTab, zeroO, (j : Int), 0⟩) := R4.out.setRow rfl
        have XF : Hid (ModAt (wy.setRow (w.heap.size + 1) (resC ⟨zeroTab, zeroO, (j : Int), 0⟩).toArray) X ⟨m.tabs.set k ((mTab m k).set j ⟨okd, omak, obn, onum, ooff, ord, owr, oap⟩), m.there⟩) := X4.out.kept (hg.block _ X4.out.1.lt (by have := Hxl.out; simp; omega))
        have GF : Hid (Kept (fun k => k = X) w (wy.setRow (w.heap.size + 1) (resC ⟨zeroTab, zeroO, (j : Int), 0⟩).toArray)) := HG4.out.trans (Kept.of_grown hg (fun k => k = (w.heap.size + 1)) (fun k hk => (Option.some.inj hk).symm)) (fun i hi e => by omega)
        clear hg
        go_wp2
        refine bodyPost_ret (v := .tuple #[resDV ⟨zeroTab, zeroO, (j : Int), 0⟩, .bool true]) (results_res2 rfl _ _ (w.heap.size + 1) (by rfl) (by rfl) HF.out) rfl ?_
        unfold DoPost
        rw [HP.out]
        exact ⟨rfl, XF.out, GF.out⟩
    · have hq' : ((q : Int) != 0) = true := bne_iff_ne.2 (by omega)
      have HP : Hid (mdo m ⟨kd, who, tw, fd, n, ⟨okd, omak, obn, onum, ooff, ord, owr, oap⟩⟩ = (m, errD q, false)) := HP0.out.trans (if_pos h0)
      clear HP0
      clear h0
      have hst := R2.out.store (r' := (errD q)) rfl
      have hsz : (resC (errD q)).toArray.size = 138 := by rw [List.size_toArray, resC_len rfl]
      have hg : w3.grownBy (w3.setRow (w.heap.size + 1) (resC (errD q)).toArray) (some (w.heap.size + 1)) := grown_setRow _ _ _
      have HF : Hid (ResAt (w3.setRow (w.heap.size + 1) (resC (errD q)).toArray) (w.heap.size + 1) (errD q)) := R2.out.setRow rfl
      have XF : Hid (ModAt (w3.setRow (w.heap.size + 1) (resC (errD q)).toArray) X m) := X2.out.kept (hg.block _ X2.out.1.lt (by have := Hxl.out; simp; omega))
      have GF : Hid (Kept (fun k => k = X) w (w3.setRow (w.heap.size + 1) (resC (errD q)).toArray)) := HG2.out.trans (Kept.of_grown hg (fun k => k = (w.heap.size + 1)) (fun k hk => (Option.some.inj hk).symm)) (fun i hi e => by omega)
      clear hg
      go_wp2
      refine bodyPost_ret (v := .tuple #[resDV (errD q), .bool false]) (results_res2 rfl _ _ (w.heap.size + 1) (by rfl) (by rfl) HF.out) rfl ?_
      unfold DoPost
      rw [HP.out]
      exact ⟨rfl, XF.out, GF.out⟩
  · have hq' : ((q1 : Int) != 0) = true := bne_iff_ne.2 (by omega)
    have HP : Hid (mdo m ⟨kd, who, tw, fd, n, ⟨okd, omak, obn, onum, ooff, ord, owr, oap⟩⟩ = (m, errD q1, false)) := HP0.out.trans (if_pos h1)
    clear HP0 h1
    have hst := R2.out.store (r' := (errD q1)) rfl
    have hsz : (resC (errD q1)).toArray.size = 138 := by rw [List.size_toArray, resC_len rfl]
    have hg : w3.grownBy (w3.setRow (w.heap.size + 1) (resC (errD q1)).toArray) (some (w.heap.size + 1)) := grown_setRow _ _ _
    have HF : Hid (ResAt (w3.setRow (w.heap.size + 1) (resC (errD q1)).toArray) (w.heap.size + 1) (errD q1)) := R2.out.setRow rfl
    have XF : Hid (ModAt (w3.setRow (w.heap.size + 1) (resC (errD q1)).toArray) X m) := X2.out.kept (hg.block _ X2.out.1.lt (by have := Hxl.out; simp; omega))
    have GF : Hid (Kept (fun k => k = X) w (w3.setRow (w.heap.size + 1) (resC (errD q1)).toArray)) := HG2.out.trans (Kept.of_grown hg (fun k => k = (w.heap.size + 1)) (fun k hk => (Option.some.inj hk).symm)) (fun i hi e => by omega)
    clear hg
    go_wp2
    refine bodyPost_ret (v := .tuple #[resDV (errD q1), .bool false]) (results_res2 rfl _ _ (w.heap.size + 1) (by rfl) (by rfl) HF.out) rfl ?_
    unfold DoPost
    rw [HP.out]
    exact ⟨rfl, XF.out, GF.out⟩
set_option linter.unusedSimpArgs false in
set_option maxRecDepth 100000 in
set_option maxHeartbeats 25600000 in
theorem mdo_6 (kd who tw : Nat) (fd n okd : Int) (omak : ByteArray) (obn onum ooff : Int) (ord owr oap : Bool) (X : Nat) (m : ModD) (w : World) (hX : ModAt w X m) (hk : kd < 256) (hw : who < 256) (ht : tw < 256) (hd : -9223372036854775808 ≤ n ∧ n ≤ 9223372036854775807) (hmk : omak.size ≤ 70368744177664) (hTE : ∀ t ∈ m.tabs, tabE t = 0) (hm : kd % 11 = 6) :
    Calls Tryz.prog 21 #[.pointer (some ⟨X, 0, none⟩), .agg #[.int .u8 kd, .int .u8 who, .int .u8 tw, .int .i64 fd, .int .i64 n, .int .i64 okd, .string omak, .int .i64 obn, .int .i64 onum, .int .i64 ooff, .bool ord, .bool owr, .bool oap]] w (DoPost w X (mdo m ⟨kd, who, tw, fd, n, ⟨okd, omak, obn, onum, ooff, ord, owr, oap⟩⟩)) := by
  have HX : Hid (∀ W, Below w.heap.size w W → ModAt W X m) := fun W h => hX.later h
  have Hxl : Hid (X < w.heap.size) := hX.1.lt
  have HB0 : Hid (Below w.heap.size w ((w.alloc (.cells #[.int .u8 kd, .int .u8 who, .int .u8 tw, .int .i64 fd, .int .i64 n, .int .i64 okd, .string omak, .int .i64 obn, .int .i64 onum, .int .i64 ooff, .bool ord, .bool owr, .bool oap] 49)).alloc (.cells Tryz.zeroCells52 52))) := ((Below.refl _ _).alloc (Nat.le_refl _) _).alloc (by simp) _
  have B0 : Hid (RowIs ((w.alloc (.cells #[.int .u8 kd, .int .u8 who, .int .u8 tw, .int .i64 fd, .int .i64 n, .int .i64 okd, .string omak, .int .i64 obn, .int .i64 onum, .int .i64 ooff, .bool ord, .bool owr, .bool oap] 49)).alloc (.cells Tryz.zeroCells52 52)) w.heap.size 49 [.int .u8 kd, .int .u8 who, .int .u8 tw, .int .i64 fd, .int .i64 n, .int .i64 okd, .string omak, .int .i64 obn, .int .i64 onum, .int .i64 ooff, .bool ord, .bool owr, .bool oap]) := (new_row w 49 [.int .u8 kd, .int .u8 who, .int .u8 tw, .int .i64 fd, .int .i64 n, .int .i64 okd, .string omak, .int .i64 obn, .int .i64 onum, .int .i64 ooff, .bool ord, .bool owr, .bool oap]).later ((Below.refl _ _).alloc (Nat.le_refl _) _)
  have R0 : Hid (ResAt ((w.alloc (.cells #[.int .u8 kd, .int .u8 who, .int .u8 tw, .int .i64 fd, .int .i64 n, .int .i64 okd, .string omak, .int .i64 obn, .int .i64 onum, .int .i64 ooff, .bool ord, .bool owr, .bool oap] 49)).alloc (.cells Tryz.zeroCells52 52)) (w.heap.size + 1) (errD 0)) := by
    have := new_res (w.alloc (.cells #[.int .u8 kd, .int .u8 who, .int .u8 tw, .int .i64 fd, .int .i64 n, .int .i64 okd, .string omak, .int .i64 obn, .int .i64 onum, .int .i64 ooff, .bool ord, .bool owr, .bool oap] 49))
    rw [World.size_alloc] at this
    exact this
  have X0 := Lib.hid (HX.out _ HB0.out)
  obtain ⟨k, hk4⟩ : ∃ k : Nat, who % 4 = k := ⟨_, rfl⟩
  obtain ⟨i, hi4⟩ : ∃ i : Nat, tw % 4 = i := ⟨_, rfl⟩
  have HK : Hid (who % 4 = k ∧ k < 4) := ⟨hk4, by omega⟩
  have HI : Hid (tw % 4 = i ∧ i < 4) := ⟨hi4, by omega⟩
  have htk : (who : Int).tmod 4 = (k : Int) := by rw [Int.tmod_eq_emod_of_nonneg (by omega)]; omega
  have hti : (tw : Int).tmod 4 = (i : Int) := by rw [Int.tmod_eq_emod_of_nonneg (by omega)]; omega
  have k0 : (0 : Int) ≤ (k : Int) := by omega
  have k1 : (k : Int) < 4 := by omega
  have i0 : (0 : Int) ≤ (i : Int) := by omega
  have i1 : (i : Int) < 4 := by omega
  have Hd := Lib.hid hd
  have Hmk := Lib.hid hmk
  have HTE := Lib.hid hTE
  have hkn : (0 : Int) ≤ (kd : Int) := by omega
  have hkx : (kd : Int) ≤ 255 := by omega
  have hwn : (0 : Int) ≤ (who : Int) := by omega
  have hwx : (who : Int) ≤ 255 := by omega
  have htn : (0 : Int) ≤ (tw : Int) := by omega
  have htx : (tw : Int) ≤ 255 := by omega
  have HM := Lib.hid hm
  clear hd hmk hTE hk4 hi4 hX hm
  go_enter Tryz.func21, Tryz.ntmps21
  go_upto_region 1 with fail
  obtain ⟨w1, hw1⟩ : ∃ w1, ((w.alloc (.cells #[.int .u8 kd, .int .u8 who, .int .u8 tw, .int .i64 fd, .int .i64 n, .int .i64 okd, .string omak, .int .i64 obn, .int .i64 onum, .int .i64 ooff, .bool ord, .bool owr, .bool oap] 49)).alloc (.cells Tryz.zeroCells52 52)) = w1 := ⟨_, rfl⟩
  rw [hw1] at HB0 B0 R0 X0 ⊢
  clear hw1
  have b1 := B0.out.cell (i := 1) rfl
  have b2 := B0.out.cell (i := 2) rfl
  have hi64k : IntKind.i64.wrap (k : Int) = (k : Int) := IntWalk.i64_in _ (by omega)
  have hi64i : IntKind.i64.wrap (i : Int) = (i : Int) := IntWalk.i64_in _ (by omega)
  go_quiet (fail)
  clear b1 b2 htk hti hi64k hi64i
  have hbd : Below w1.heap.size w1 (w1.drewN nq) := ⟨rfl, rfl, rfl, Nat.le_refl _, fun _ _ => rfl⟩
  have HG1 : Hid (Kept (fun k => k = X) w (w1.drewN nq)) := Kept.of_below (HB0.out.trans (hbd.mono HB0.out.size)) _
  have B1 := Lib.hid (B0.out.later hbd)
  have R1 := Lib.hid (R0.out.later hbd)
  have X1 := Lib.hid (X0.out.later hbd)
  clear hbd HB0 B0 R0 X0
  generalize w1.drewN nq = w2 at *
  have hm := HM.out
  have hmi : (kd : Int) % 11 = 6 := by omega
  have HP0 : Hid (mdo m ⟨kd, who, tw, fd, n, ⟨okd, omak, obn, onum, ooff, ord, owr, oap⟩⟩ = mPut m k fd ⟨okd, omak, obn, onum, ooff, ord, owr, oap⟩) := by
    show _ = _
    rw [mD6 (o := ⟨kd, who, tw, fd, n, ⟨okd, omak, obn, onum, ooff, ord, owr, oap⟩⟩) hm]
    dsimp only
    rw [HK.out.1]
  clear HM hm
  have HP1 : Hid (mdo m ⟨kd, who, tw, fd, n, ⟨okd, omak, obn, onum, ooff, ord, owr, oap⟩⟩ = if checkO ⟨okd, omak, obn, onum, ooff, ord, owr, oap⟩ ≠ 0 then (m, errD (checkO ⟨okd, omak, obn, onum, ooff, ord, owr, oap⟩), false) else mOne m k (putF fd ⟨okd, omak, obn, onum, ooff, ord, owr, oap⟩)) := HP0.out
  clear HP0
  have HP0 := HP1
  clear HP1
  have b0 := B1.out.cell (i := 0) rfl
  have b4 := B1.out.cell (i := 4) rfl
  have b5 := B1.out.cell (i := 5) rfl
  have b6 := B1.out.cell (i := 6) rfl
  have b7 := B1.out.cell (i := 7) rfl
  have b8 := B1.out.cell (i := 8) rfl
  have b9 := B1.out.cell (i := 9) rfl
  have b10 := B1.out.cell (i := 10) rfl
  have b11 := B1.out.cell (i := 11) rfl
  have b12 := B1.out.cell (i := 12) rfl
  obtain ⟨q1, hq1⟩ : ∃ q, checkO ⟨okd, omak, obn, onum, ooff, ord, owr, oap⟩ = q := ⟨_, rfl⟩
  rw [hq1] at HP0
  have Hq1 := Lib.hid hq1
  clear hq1
  go_wp2_with fail
  (with_reducible refine (check31_is okd omak obn onum ooff ord owr oap q1 Hq1.out _ Hmk.out).mono ?_)
  rintro r w3 ⟨rfl, hb⟩
  have B2 := Lib.hid (B1.out.later hb)
  have R2 := Lib.hid (R1.out.later hb)
  have X2 := Lib.hid (X1.out.later hb)
  have HG2 : Hid (Kept (fun k => k = X) w w3) := HG1.out.trans (Kept.of_below hb (fun _ => False)) (fun _ _ h => h.elim)
  clear hb B1 R1 X1 HG1 b0 b4 b5 b6 b7 b8 b9 b10 b11 b12
  by_cases h1 : q1 = 0
  · subst h1
    have HP1 : Hid (mdo m ⟨kd, who, tw, fd, n, ⟨okd, omak, obn, onum, ooff, ord, owr, oap⟩⟩ = if mAll m k ≠ 0 then (m, errD (mAll m k), false) else (mUpd m k (putF fd ⟨okd, omak, obn, onum, ooff, ord, owr, oap⟩ (mTab m k)).2, (putF fd ⟨okd, omak, obn, onum, ooff, ord, owr, oap⟩ (mTab m k)).1, (putF fd ⟨okd, omak, obn, onum, ooff, ord, owr, oap⟩ (mTab m k)).2.isSome)) := HP0.out.trans (if_neg (by simp))
    clear HP0
    have HP0 := HP1
    clear HP1
    have b0 := B2.out.cell (i := 0) rfl
    obtain ⟨q, hq⟩ : ∃ q, mAll m k = q := ⟨_, rfl⟩
    have hc := mAll_any X2.out HK.out.2
    rw [hq] at hc HP0
    have HC := Lib.hid hc
    have Hq := Lib.hid hq
    clear hc hq
    go_wp2_with fail
    refine HC.out.mono ?_
    rintro r w9 ⟨rfl, rfl⟩
    clear HC
    by_cases h0 : q = 0
    · subst h0
      have b3 := B2.out.cell (i := 3) rfl
      by_cases f0 : fd < 0
      · have HP : Hid (mdo m ⟨kd, who, tw, fd, n, ⟨okd, omak, obn, onum, ooff, ord, owr, oap⟩⟩ = (m, errD 21, false)) := by
          refine HP0.out.trans ((if_neg (by simp)).trans ?_)
          unfold putF
          rw [if_pos (.inl f0)]
          rfl
        clear HP0
        have hst := R2.out.store (r' := (errD 21)) rfl
        have hsz : (resC (errD 21)).toArray.size = 138 := by rw [List.size_toArray, resC_len rfl]
        have hg : w3.grownBy (w3.setRow (w.heap.size + 1) (resC (errD 21)).toArray) (some (w.heap.size + 1)) := grown_setRow _ _ _
        have HF : Hid (ResAt (w3.setRow (w.heap.size + 1) (resC (errD 21)).toArray) (w.heap.size + 1) (errD 21)) := R2.out.setRow rfl
        have XF : Hid (ModAt (w3.setRow (w.heap.size + 1) (resC (errD 21)).toArray) X m) := X2.out.kept (hg.block _ X2.out.1.lt (by have := Hxl.out; simp; omega))
        have GF : Hid (Kept (fun k => k = X) w (w3.setRow (w.heap.size + 1) (resC (errD 21)).toArray)) := HG2.out.trans (Kept.of_grown hg (fun k => k = (w.heap.size + 1)) (fun k hk => (Option.some.inj hk).symm)) (fun i hi e => by omega)
        clear hg
        go_wp2
        refine bodyPost_ret (v := .tuple #[resDV (errD 21), .bool false]) (results_res2 rfl _ _ (w.heap.size + 1) (by rfl) (by rfl) HF.out) rfl ?_
        unfold DoPost
        rw [HP.out]
        exact ⟨rfl, XF.out, GF.out⟩
      by_cases f1 : (16 : Int) ≤ fd
      · have HP : Hid (mdo m ⟨kd, who, tw, fd, n, ⟨okd, omak, obn, onum, ooff, ord, owr, oap⟩⟩ = (m, errD 21, false)) := by
          refine HP0.out.trans ((if_neg (by simp)).trans ?_)
          unfold putF
          rw [if_pos (.inr f1)]
          rfl
        clear HP0
        have hst := R2.out.store (r' := (errD 21)) rfl
        have hsz : (resC (errD 21)).toArray.size = 138 := by rw [List.size_toArray, resC_len rfl]
        have hg : w3.grownBy (w3.setRow (w.heap.size + 1) (resC (errD 21)).toArray) (some (w.heap.size + 1)) := grown_setRow _ _ _
        have HF : Hid (ResAt (w3.setRow (w.heap.size + 1) (resC (errD 21)).toArray) (w.heap.size + 1) (errD 21)) := R2.out.setRow rfl
        have XF : Hid (ModAt (w3.setRow (w.heap.size + 1) (resC (errD 21)).toArray) X m) := X2.out.kept (hg.block _ X2.out.1.lt (by have := Hxl.out; simp; omega))
        have GF : Hid (Kept (fun k => k = X) w (w3.setRow (w.heap.size + 1) (resC (errD 21)).toArray)) := HG2.out.trans (Kept.of_grown hg (fun k => k = (w.heap.size + 1)) (fun k hk => (Option.some.inj hk).symm)) (fun i hi e => by omega)
        clear hg
        go_wp2
        refine bodyPost_ret (v := .tuple #[resDV (errD 21), .bool false]) (results_res2 rfl _ _ (w.heap.size + 1) (by rfl) (by rfl) HF.out) rfl ?_
        unfold DoPost
        rw [HP.out]
        exact ⟨rfl, XF.out, GF.out⟩
      obtain ⟨n0, rfl⟩ := Int.eq_ofNat_of_zero_le (show 0 ≤ fd by omega)
      have hn16 : n0 < 16 := by omega
      have Hn := Lib.hid hn16
      obtain ⟨x, hx⟩ := ent_some (X2.out.2.tl k) hn16
      have he : entD (mTab m k) (n0 : Int) = x := by unfold entD; rw [List.getD_eq_getElem?_getD, show ((n0 : Nat) : Int).toNat = n0 from rfl, hx]; rfl
      obtain ⟨ekd, emak, ebn, enum, eoff, erd, ewr, eap⟩ := x
      have Hx := Lib.hid hx
      have j0 : (0 : Int) ≤ (n0 : Int) := by omega
      have j1 : ((n0 : Nat) : Int) < 16 := by omega
      have HP : Hid (mdo m ⟨kd, who, tw, (n0 : Int), n, ⟨okd, omak, obn, onum, ooff, ord, owr, oap⟩⟩ = (⟨m.tabs.set k ((mTab m k).set n0 ⟨okd, omak, obn, onum, ooff, ord, owr, oap⟩), m.there⟩, ⟨zeroTab, ⟨ekd, emak, ebn, enum, eoff, erd, ewr, eap⟩, 0, 0⟩, !sameO ⟨ekd, emak, ebn, enum, eoff, erd, ewr, eap⟩ ⟨okd, omak, obn, onum, ooff, ord, owr, oap⟩)) := by
        refine HP0.out.trans ((if_neg (by simp)).trans ?_)
        unfold putF
        rw [if_neg (by omega), he]
        cases hs : sameO ⟨ekd, emak, ebn, enum, eoff, erd, ewr, eap⟩ ⟨okd, omak, obn, onum, ooff, ord, owr, oap⟩ with
        | true =>
          have := set_self X2.out.2 HK.out.2 Hx.out
          rw [sameO_iff.1 hs] at this
          rw [if_pos rfl, this]
          rfl
        | false =>
          rw [if_neg (by decide)]
          dsimp only
          rw [upd_there X2.out.2 HK.out.2 (mAll_ok Hq.out).2]
          rfl
      clear HP0 he hx f0 f1 hn16
      go_upto_region 54 with fail
      clear b0 b3
      have hbd : Below w3.heap.size w3 w3.drew := (Below.refl _ _).drew
      have B3 := Lib.hid (B2.out.later hbd)
      have R3 := Lib.hid (R2.out.later hbd)
      have X3 := Lib.hid (X2.out.later hbd)
      have HG3 : Hid (Kept (fun k => k = X) w w3.drew) := HG2.out.trans (Kept.of_below hbd (fun _ => False)) (fun _ _ h => h.elim)
      clear hbd B2 R2 X2 HG2
      refine wp_region_held_drew (S := (fun W => RowIs W w.heap.size 49 [.int .u8 kd, .int .u8 who, .int .u8 tw, .int .i64 (n0 : Int), .int .i64 n, .int .i64 okd, .string omak, .int .i64 obn, .int .i64 onum, .int .i64 ooff, .bool ord, .bool owr, .bool oap] ∧ ModAt W X m)) (by kernel_rfl) (⟨B3.out, X3.out⟩) (fun hHeld0 => ?_)
      obtain ⟨wv, hwn⟩ : ∃ x, w3.drew = x := ⟨_, rfl⟩
      rw [hwn] at B3 R3 X3 HG3 hHeld0 ⊢
      clear hwn
      refine wpAnyH_take (i := 0) (v := ?_) rfl (by kernel_rfl) (by kernel_rfl) (by kernel_rfl) (fun _ _ _ h => h) (Or.inl ⟨by rfl, ?_⟩) (by assumption) ?_
      rotate_left
      · (intro wx hSw; (try dsimp only at hSw); go_simp <;> with_reducible rfl)
      try simp only [Act.put, List.setIfInBounds_toArray, List.set_cons_zero, List.set_cons_succ, List.getElem_toArray, List.getElem_cons_zero, List.getElem_cons_succ]
      refine wpAnyH_take (i := 1) (v := ?_) rfl (by kernel_rfl) (by kernel_rfl) (by kernel_rfl) (fun _ _ _ h => h) (Or.inl ⟨by rfl, ?_⟩) (by assumption) ?_
      rotate_left
      · (intro wx hSw; (try dsimp only at hSw); go_simp <;> with_reducible rfl)
      try simp only [Act.put, List.setIfInBounds_toArray, List.set_cons_zero, List.set_cons_succ, List.getElem_toArray, List.getElem_cons_zero, List.getElem_cons_succ]
      refine wpAnyH_take (i := 2) (v := ?_) rfl (by kernel_rfl) (by kernel_rfl) (by kernel_rfl) (fun _ _ _ h => h) (Or.inl ⟨by rfl, ?_⟩) (by assumption) ?_
      rotate_left
      · (intro wx hSw; (try dsimp only at hSw); go_simp <;> with_reducible rfl)
      try simp only [Act.put, List.setIfInBounds_toArray, List.set_cons_zero, List.set_cons_succ, List.getElem_toArray, List.getElem_cons_zero, List.getElem_cons_succ]
      refine wpAnyH_take (i := 3) (v := ?_) rfl (by kernel_rfl) (by kernel_rfl) (by kernel_rfl) (fun _ _ _ h => h) (Or.inl ⟨by rfl, ?_⟩) (by assumption) ?_
      rotate_left
      · (intro wx hSw; (try dsimp only at hSw); have c3 := hSw.1.cell (i := 3) rfl; go_simp <;> with_reducible rfl)
      try simp only [Act.put, List.setIfInBounds_toArray, List.set_cons_zero, List.set_cons_succ, List.getElem_toArray, List.getElem_cons_zero, List.getElem_cons_succ]
      refine wpAnyH_take (i := 4) (v := ?_) rfl (by kernel_rfl) (by kernel_rfl) (by kernel_rfl) (fun _ _ _ h => h) (Or.inl ⟨by rfl, ?_⟩) (by assumption) ?_
      rotate_left
      · (intro wx hSw; (try dsimp only at hSw); go_simp <;> with_reducible rfl)
      try simp only [Act.put, List.setIfInBounds_toArray, List.set_cons_zero, List.set_cons_succ, List.getElem_toArray, List.getElem_cons_zero, List.getElem_cons_succ]
      refine wpAnyH_take (i := 5) (v := ?_) rfl (by kernel_rfl) (by kernel_rfl) (by kernel_rfl) (fun _ _ _ h => h) (Or.inl ⟨by rfl, ?_⟩) (by assumption) ?_
      rotate_left
      · (intro wx hSw; (try dsimp only at hSw); go_simp <;> with_reducible rfl)
      try simp only [Act.put, List.setIfInBounds_toArray, List.set_cons_zero, List.set_cons_succ, List.getElem_toArray, List.getElem_cons_zero, List.getElem_cons_succ]
      refine wpAnyH_take (i := 6) (v := ?_) rfl (by kernel_rfl) (by kernel_rfl) (by kernel_rfl) (fun _ _ _ h => h) (Or.inl ⟨by rfl, ?_⟩) (by assumption) ?_
      rotate_left
      · (intro wx hSw; (try dsimp only at hSw); go_simp <;> with_reducible rfl)
      try simp only [Act.put, List.setIfInBounds_toArray, List.set_cons_zero, List.set_cons_succ, List.getElem_toArray, List.getElem_cons_zero, List.getElem_cons_succ]
      refine wpAnyH_take (i := 7) (v := ?_) rfl (by kernel_rfl) (by kernel_rfl) (by kernel_rfl) (fun _ _ _ h => h) (Or.inl ⟨by rfl, ?_⟩) (by assumption) ?_
      rotate_left
      · (intro wx hSw; (try dsimp only at hSw); go_simp <;> with_reducible rfl)
      try simp only [Act.put, List.setIfInBounds_toArray, List.set_cons_zero, List.set_cons_succ, List.getElem_toArray, List.getElem_cons_zero, List.getElem_cons_succ]
      refine wpAnyH_take (i := 8) (v := ?_) rfl (by kernel_rfl) (by kernel_rfl) (by kernel_rfl) (fun _ _ _ h => h) (Or.inl ⟨by rfl, ?_⟩) (by assumption) ?_
      rotate_left
      · (intro wx hSw; (try dsimp only at hSw); have z0 : wx.cell? ⟨X, k * 128 + n0 * 8, none⟩ = some (.int .i64 ekd) := hSw.2.ent HK.out.2 Hx.out (j := 0) rfl; have z1 : wx.cell? ⟨X, k * 128 + n0 * 8 + 1, none⟩ = some (.string emak) := hSw.2.ent HK.out.2 Hx.out (j := 1) rfl; have z2 : wx.cell? ⟨X, k * 128 + n0 * 8 + 2, none⟩ = some (.int .i64 ebn) := hSw.2.ent HK.out.2 Hx.out (j := 2) rfl; have z3 : wx.cell? ⟨X, k * 128 + n0 * 8 + 3, none⟩ = some (.int .i64 enum) := hSw.2.ent HK.out.2 Hx.out (j := 3) rfl; have z4 : wx.cell? ⟨X, k * 128 + n0 * 8 + 4, none⟩ = some (.int .i64 eoff) := hSw.2.ent HK.out.2 Hx.out (j := 4) rfl; have z5 : wx.cell? ⟨X, k * 128 + n0 * 8 + 5, none⟩ = some (.bool erd) := hSw.2.ent HK.out.2 Hx.out (j := 5) rfl; have z6 : wx.cell? ⟨X, k * 128 + n0 * 8 + 6, none⟩ = some (.bool ewr) := hSw.2.ent HK.out.2 Hx.out (j := 6) rfl; have z7 : wx.cell? ⟨X, k * 128 + n0 * 8 + 7, none⟩ = some (.bool eap) := hSw.2.ent HK.out.2 Hx.out (j := 7) rfl; go_simp <;> with_reducible rfl)
      try simp only [Act.put, List.setIfInBounds_toArray, List.set_cons_zero, List.set_cons_succ, List.getElem_toArray, List.getElem_cons_zero, List.getElem_cons_succ]
      refine wpAnyH_take (i := 9) (v := ?_) rfl (by kernel_rfl) (by kernel_rfl) (by kernel_rfl) (fun _ _ _ h => h) (Or.inl ⟨by rfl, ?_⟩) (by assumption) ?_
      rotate_left
      · (intro wx hSw; (try dsimp only at hSw); go_simp <;> with_reducible rfl)
      try simp only [Act.put, List.setIfInBounds_toArray, List.set_cons_zero, List.set_cons_succ, List.getElem_toArray, List.getElem_cons_zero, List.getElem_cons_succ]
      refine wpAnyH_ready (rs := [10]) (by kernel_rfl) (by simp) ?_
      refine AllReadyH.cons rfl (fun K hK => ?_) AllReadyH.nil
      have s0 := R3.out.1.cell (resC_at R3.out.2 (j := 0) rfl)
      have s1 := R3.out.1.cell (resC_at R3.out.2 (j := 1) rfl)
      have s2 := R3.out.1.cell (resC_at R3.out.2 (j := 2) rfl)
      have s3 := R3.out.1.cell (resC_at R3.out.2 (j := 3) rfl)
      have s4 := R3.out.1.cell (resC_at R3.out.2 (j := 4) rfl)
      have s5 := R3.out.1.cell (resC_at R3.out.2 (j := 5) rfl)
      have s6 := R3.out.1.cell (resC_at R3.out.2 (j := 6) rfl)
      have s7 := R3.out.1.cell (resC_at R3.out.2 (j := 7) rfl)
      have u0 := R3.out.free 128
      have u1 := R3.out.free 129
      have u2 := R3.out.free 130
      have u3 := R3.out.free 131
      have u4 := R3.out.free 132
      have u5 := R3.out.free 133
      have u6 := R3.out.free 134
      have u7 := R3.out.free 135
      have hg : wv.grownBy ((((((((wv.setCell ⟨w.heap.size + 1, 128, none⟩ (.int .i64 ekd)).setCell ⟨w.heap.size + 1, 129, none⟩ (.string emak)).setCell ⟨w.heap.size + 1, 130, none⟩ (.int .i64 ebn)).setCell ⟨w.heap.size + 1, 131, none⟩ (.int .i64 enum)).setCell ⟨w.heap.size + 1, 132, none⟩ (.int .i64 eoff)).setCell ⟨w.heap.size + 1, 133, none⟩ (.bool erd)).setCell ⟨w.heap.size + 1, 134, none⟩ (.bool ewr)).setCell ⟨w.heap.size + 1, 135, none⟩ (.bool eap)) (some (w.heap.size + 1)) := grown_set8 _ _ _ _ _ _ _ _ _ _ _ _ _ _ _ _ _ _
      have B4 := Lib.hid (B3.out.kept (hg.block _ B3.out.lt (by simp)))
      have R4 : Hid (ResAt ((((((((wv.setCell ⟨w.heap.size + 1, 128, none⟩ (.int .i64 ekd)).setCell ⟨w.heap.size + 1, 129, none⟩ (.string emak)).setCell ⟨w.heap.size + 1, 130, none⟩ (.int .i64 ebn)).setCell ⟨w.heap.size + 1, 131, none⟩ (.int .i64 enum)).setCell ⟨w.heap.size + 1, 132, none⟩ (.int .i64 eoff)).setCell ⟨w.heap.size + 1, 133, none⟩ (.bool erd)).setCell ⟨w.heap.size + 1, 134, none⟩ (.bool ewr)).setCell ⟨w.heap.size + 1, 135, none⟩ (.bool eap)) (w.heap.size + 1) ⟨zeroTab, ⟨ekd, emak, ebn, enum, eoff, erd, ewr, eap⟩, 0, 0⟩) := R3.out.setO ⟨ekd, emak, ebn, enum, eoff, erd, ewr, eap⟩
      have X4 : Hid (ModAt ((((((((wv.setCell ⟨w.heap.size + 1, 128, none⟩ (.int .i64 ekd)).setCell ⟨w.heap.size + 1, 129, none⟩ (.string emak)).setCell ⟨w.heap.size + 1, 130, none⟩ (.int .i64 ebn)).setCell ⟨w.heap.size + 1, 131, none⟩ (.int .i64 enum)).setCell ⟨w.heap.size + 1, 132, none⟩ (.int .i64 eoff)).setCell ⟨w.heap.size + 1, 133, none⟩ (.bool erd)).setCell ⟨w.heap.size + 1, 134, none⟩ (.bool ewr)).setCell ⟨w.heap.size + 1, 135, none⟩ (.bool eap)) X m) := X3.out.kept (hg.block _ X3.out.1.lt (by have := Hxl.out; simp; omega))
      have HG4 : Hid (Kept (fun k => k = X) w ((((((((wv.setCell ⟨w.heap.size + 1, 128, none⟩ (.int .i64 ekd)).setCell ⟨w.heap.size + 1, 129, none⟩ (.string emak)).setCell ⟨w.heap.size + 1, 130, none⟩ (.int .i64 ebn)).setCell ⟨w.heap.size + 1, 131, none⟩ (.int .i64 enum)).setCell ⟨w.heap.size + 1, 132, none⟩ (.int .i64 eoff)).setCell ⟨w.heap.size + 1, 133, none⟩ (.bool erd)).setCell ⟨w.heap.size + 1, 134, none⟩ (.bool ewr)).setCell ⟨w.heap.size + 1, 135, none⟩ (.bool eap))) := HG3.out.trans (Kept.of_grown hg (fun k => k = (w.heap.size + 1)) (fun k hk => (Option.some.inj hk).symm)) (fun i hi e => by omega)
      clear hg
      go_simp
      refine hK.out _ _ (⟨B4.out, X4.out⟩) (fun hHeld1 => ?_)
      clear hK K hHeld0
      try simp only [Act.put, List.setIfInBounds_toArray, List.set_cons_zero, List.set_cons_succ, List.getElem_toArray, List.getElem_cons_zero, List.getElem_cons_succ]
      refine wpAnyH_done (by kernel_rfl) ?_ _
      clear s0 u0 s1 u1 s2 u2 s3 u3 s4 u4 s5 u5 s6 u6 s7 u7 B3 R3 X3 HG3
      go_upto_region 55 with fail
      obtain ⟨w4, hwn⟩ : ∃ x, ((((((((wv.setCell ⟨w.heap.size + 1, 128, none⟩ (.int .i64 ekd)).setCell ⟨w.heap.size + 1, 129, none⟩ (.string emak)).setCell ⟨w.heap.size + 1, 130, none⟩ (.int .i64 ebn)).setCell ⟨w.heap.size + 1, 131, none⟩ (.int .i64 enum)).setCell ⟨w.heap.size + 1, 132, none⟩ (.int .i64 eoff)).setCell ⟨w.heap.size + 1, 133, none⟩ (.bool erd)).setCell ⟨w.heap.size + 1, 134, none⟩ (.bool ewr)).setCell ⟨w.heap.size + 1, 135, none⟩ (.bool eap)) = x := ⟨_, rfl⟩
      rw [hwn] at B4 R4 X4 HG4 ⊢
      clear hwn
      have hbd : Below w4.heap.size w4 w4.drew := (Below.refl _ _).drew
      have B5 := Lib.hid (B4.out.later hbd)
      have R5 := Lib.hid (R4.out.later hbd)
      have X5 := Lib.hid (X4.out.later hbd)
      have HG5 : Hid (Kept (fun k => k = X) w w4.drew) := HG4.out.trans (Kept.of_below hbd (fun _ => False)) (fun _ _ h => h.elim)
      clear hbd B4 R4 X4 HG4
      refine wp_region_held_drew (S := (fun W => RowIs W w.heap.size 49 [.int .u8 kd, .int .u8 who, .int .u8 tw, .int .i64 (n0 : Int), .int .i64 n, .int .i64 okd, .string omak, .int .i64 obn, .int .i64 onum, .int .i64 ooff, .bool ord, .bool owr, .bool oap])) (by kernel_rfl) (B5.out) (fun hHeld0 => ?_)
      obtain ⟨wv, hwn⟩ : ∃ x, w4.drew = x := ⟨_, rfl⟩
      rw [hwn] at B5 R5 X5 HG5 hHeld0 ⊢
      clear hwn
      refine wpAnyH_take (i := 0) (v := ?_) rfl (by kernel_rfl) (by kernel_rfl) (by kernel_rfl) (fun _ _ _ h => h) (Or.inl ⟨by rfl, ?_⟩) (by assumption) ?_
      rotate_left
      · (intro wx hSw; (try dsimp only at hSw); go_simp <;> with_reducible rfl)
      try simp only [Act.put, List.setIfInBounds_toArray, List.set_cons_zero, List.set_cons_succ, List.getElem_toArray, List.getElem_cons_zero, List.getElem_cons_succ]
      refine wpAnyH_take (i := 1) (v := ?_) rfl (by kernel_rfl) (by kernel_rfl) (by kernel_rfl) (fun _ _ _ h => h) (Or.inl ⟨by rfl, ?_⟩) (by assumption) ?_
      rotate_left
      · (intro wx hSw; (try dsimp only at hSw); go_simp <;> with_reducible rfl)
      try simp only [Act.put, List.setIfInBounds_toArray, List.set_cons_zero, List.set_cons_succ, List.getElem_toArray, List.getElem_cons_zero, List.getElem_cons_succ]
      refine wpAnyH_take (i := 2) (v := ?_) rfl (by kernel_rfl) (by kernel_rfl) (by kernel_rfl) (fun _ _ _ h => h) (Or.inl ⟨by rfl, ?_⟩) (by assumption) ?_
      rotate_left
      · (intro wx hSw; (try dsimp only at hSw); go_simp <;> with_reducible rfl)
      try simp only [Act.put, List.setIfInBounds_toArray, List.set_cons_zero, List.set_cons_succ, List.getElem_toArray, List.getElem_cons_zero, List.getElem_cons_succ]
      refine wpAnyH_take (i := 3) (v := ?_) rfl (by kernel_rfl) (by kernel_rfl) (by kernel_rfl) (fun _ _ _ h => h) (Or.inl ⟨by rfl, ?_⟩) (by assumption) ?_
      rotate_left
      · (intro wx hSw; (try dsimp only at hSw); have c3 := hSw.cell (i := 3) rfl; go_simp <;> with_reducible rfl)
      try simp only [Act.put, List.setIfInBounds_toArray, List.set_cons_zero, List.set_cons_succ, List.getElem_toArray, List.getElem_cons_zero, List.getElem_cons_succ]
      refine wpAnyH_take (i := 4) (v := ?_) rfl (by kernel_rfl) (by kernel_rfl) (by kernel_rfl) (fun _ _ _ h => h) (Or.inl ⟨by rfl, ?_⟩) (by assumption) ?_
      rotate_left
      · (intro wx hSw; (try dsimp only at hSw); go_simp <;> with_reducible rfl)
      try simp only [Act.put, List.setIfInBounds_toArray, List.set_cons_zero, List.set_cons_succ, List.getElem_toArray, List.getElem_cons_zero, List.getElem_cons_succ]
      refine wpAnyH_take (i := 5) (v := ?_) rfl (by kernel_rfl) (by kernel_rfl) (by kernel_rfl) (fun _ _ _ h => h) (Or.inl ⟨by rfl, ?_⟩) (by assumption) ?_
      rotate_left
      · (intro wx hSw; (try dsimp only at hSw); have c5 := hSw.cell (i := 5) rfl; have c6 := hSw.cell (i := 6) rfl; have c7 := hSw.cell (i := 7) rfl; have c8 := hSw.cell (i := 8) rfl; have c9 := hSw.cell (i := 9) rfl; have c10 := hSw.cell (i := 10) rfl; have c11 := hSw.cell (i := 11) rfl; have c12 := hSw.cell (i := 12) rfl; go_simp <;> with_reducible rfl)
      try simp only [Act.put, List.setIfInBounds_toArray, List.set_cons_zero, List.set_cons_succ, List.getElem_toArray, List.getElem_cons_zero, List.getElem_cons_succ]
      refine wpAnyH_take (i := 6) (v := ?_) rfl (by kernel_rfl) (by kernel_rfl) (by kernel_rfl) (fun _ _ _ h => h) (Or.inl ⟨by rfl, ?_⟩) (by assumption) ?_
      rotate_left
      · (intro wx hSw; (try dsimp only at hSw); go_simp <;> with_reducible rfl)
      try simp only [Act.put, List.setIfInBounds_toArray, List.set_cons_zero, List.set_cons_succ, List.getElem_toArray, List.getElem_cons_zero, List.getElem_cons_succ]
      refine wpAnyH_take (i := 7) (v := ?_) rfl (by kernel_rfl) (by kernel_rfl) (by kernel_rfl) (fun _ _ _ h => h) (Or.inl ⟨by rfl, ?_⟩) (by assumption) ?_
      rotate_left
      · (intro wx hSw; (try dsimp only at hSw); go_simp <;> with_reducible rfl)
      try simp only [Act.put, List.setIfInBounds_toArray, List.set_cons_zero, List.set_cons_succ, List.getElem_toArray, List.getElem_cons_zero, List.getElem_cons_succ]
      refine wpAnyH_take (i := 8) (v := ?_) rfl (by kernel_rfl) (by kernel_rfl) (by kernel_rfl) (fun _ _ _ h => h) (Or.inl ⟨by rfl, ?_⟩) (by assumption) ?_
      rotate_left
      · (intro wx hSw; (try dsimp only at hSw); go_simp <;> with_reducible rfl)
      try simp only [Act.put, List.setIfInBounds_toArray, List.set_cons_zero, List.set_cons_succ, List.getElem_toArray, List.getElem_cons_zero, List.getElem_cons_succ]
      refine wpAnyH_take (i := 9) (v := ?_) rfl (by kernel_rfl) (by kernel_rfl) (by kernel_rfl) (fun _ _ _ h => h) (Or.inl ⟨by rfl, ?_⟩) (by assumption) ?_
      rotate_left
      · (intro wx hSw; (try dsimp only at hSw); go_simp <;> with_reducible rfl)
      try simp only [Act.put, List.setIfInBounds_toArray, List.set_cons_zero, List.set_cons_succ, List.getElem_toArray, List.getElem_cons_zero, List.getElem_cons_succ]
      refine wpAnyH_ready (rs := [10]) (by kernel_rfl) (by simp) ?_
      refine AllReadyH.cons rfl (fun K hK => ?_) AllReadyH.nil
      have y0 : wv.cell? ⟨X, k * 128 + n0 * 8, none⟩ = some (.int .i64 ekd) := X5.out.ent HK.out.2 Hx.out (j := 0) rfl
      have y1 : wv.cell? ⟨X, k * 128 + n0 * 8 + 1, none⟩ = some (.string emak) := X5.out.ent HK.out.2 Hx.out (j := 1) rfl
      have y2 : wv.cell? ⟨X, k * 128 + n0 * 8 + 2, none⟩ = some (.int .i64 ebn) := X5.out.ent HK.out.2 Hx.out (j := 2) rfl
      have y3 : wv.cell? ⟨X, k * 128 + n0 * 8 + 3, none⟩ = some (.int .i64 enum) := X5.out.ent HK.out.2 Hx.out (j := 3) rfl
      have y4 : wv.cell? ⟨X, k * 128 + n0 * 8 + 4, none⟩ = some (.int .i64 eoff) := X5.out.ent HK.out.2 Hx.out (j := 4) rfl
      have y5 : wv.cell? ⟨X, k * 128 + n0 * 8 + 5, none⟩ = some (.bool erd) := X5.out.ent HK.out.2 Hx.out (j := 5) rfl
      have y6 : wv.cell? ⟨X, k * 128 + n0 * 8 + 6, none⟩ = some (.bool ewr) := X5.out.ent HK.out.2 Hx.out (j := 6) rfl
      have y7 : wv.cell? ⟨X, k * 128 + n0 * 8 + 7, none⟩ = some (.bool eap) := X5.out.ent HK.out.2 Hx.out (j := 7) rfl
      have yf0 := X5.out.free (k * 128 + n0 * 8)
      have yf1 := X5.out.free (k * 128 + n0 * 8 + 1)
      have yf2 := X5.out.free (k * 128 + n0 * 8 + 2)
      have yf3 := X5.out.free (k * 128 + n0 * 8 + 3)
      have yf4 := X5.out.free (k * 128 + n0 * 8 + 4)
      have yf5 := X5.out.free (k * 128 + n0 * 8 + 5)
      have yf6 := X5.out.free (k * 128 + n0 * 8 + 6)
      have yf7 := X5.out.free (k * 128 + n0 * 8 + 7)
      have hg : wv.grownBy ((((((((wv.setCell ⟨X, k * 128 + n0 * 8, none⟩ (.int .i64 okd)).setCell ⟨X, k * 128 + n0 * 8 + 1, none⟩ (.string omak)).setCell ⟨X, k * 128 + n0 * 8 + 2, none⟩ (.int .i64 obn)).setCell ⟨X, k * 128 + n0 * 8 + 3, none⟩ (.int .i64 onum)).setCell ⟨X, k * 128 + n0 * 8 + 4, none⟩ (.int .i64 ooff)).setCell ⟨X, k * 128 + n0 * 8 + 5, none⟩ (.bool ord)).setCell ⟨X, k * 128 + n0 * 8 + 6, none⟩ (.bool owr)).setCell ⟨X, k * 128 + n0 * 8 + 7, none⟩ (.bool oap)) (some X) := grown_set8 _ _ _ _ _ _ _ _ _ _ _ _ _ _ _ _ _ _
      have B6 := Lib.hid (B5.out.kept (hg.block _ B5.out.lt (by have := Hxl.out; simp; omega)))
      have R6 := Lib.hid (R5.out.kept (hg.block _ R5.out.1.lt (by have := Hxl.out; simp; omega)))
      have X6 : Hid (ModAt ((((((((wv.setCell ⟨X, k * 128 + n0 * 8, none⟩ (.int .i64 okd)).setCell ⟨X, k * 128 + n0 * 8 + 1, none⟩ (.string omak)).setCell ⟨X, k * 128 + n0 * 8 + 2, none⟩ (.int .i64 obn)).setCell ⟨X, k * 128 + n0 * 8 + 3, none⟩ (.int .i64 onum)).setCell ⟨X, k * 128 + n0 * 8 + 4, none⟩ (.int .i64 ooff)).setCell ⟨X, k * 128 + n0 * 8 + 5, none⟩ (.bool ord)).setCell ⟨X, k * 128 + n0 * 8 + 6, none⟩ (.bool owr)).setCell ⟨X, k * 128 + n0 * 8 + 7, none⟩ (.bool oap)) X ⟨m.tabs.set k ((mTab m k).set n0 ⟨okd, omak, obn, onum, ooff, ord, owr, oap⟩), m.there⟩) := X5.out.setEnt HK.out.2 Hn.out ⟨okd, omak, obn, onum, ooff, ord, owr, oap⟩
      have HG6 : Hid (Kept (fun k => k = X) w ((((((((wv.setCell ⟨X, k * 128 + n0 * 8, none⟩ (.int .i64 okd)).setCell ⟨X, k * 128 + n0 * 8 + 1, none⟩ (.string omak)).setCell ⟨X, k * 128 + n0 * 8 + 2, none⟩ (.int .i64 obn)).setCell ⟨X, k * 128 + n0 * 8 + 3, none⟩ (.int .i64 onum)).setCell ⟨X, k * 128 + n0 * 8 + 4, none⟩ (.int .i64 ooff)).setCell ⟨X, k * 128 + n0 * 8 + 5, none⟩ (.bool ord)).setCell ⟨X, k * 128 + n0 * 8 + 6, none⟩ (.bool owr)).setCell ⟨X, k * 128 + n0 * 8 + 7, none⟩ (.bool oap))) := HG5.out.trans (Kept.of_grown hg (fun k => k = X) (fun k hk => (Option.some.inj hk).symm)) (fun _ _ h => h)
      clear hg
      go_simp
      refine hK.out _ _ (B6.out) (fun hHeld1 => ?_)
      clear hK K hHeld0
      try simp only [Act.put, List.setIfInBounds_toArray, List.set_cons_zero, List.set_cons_succ, List.getElem_toArray, List.getElem_cons_zero, List.getElem_cons_succ]
      refine wpAnyH_done (by kernel_rfl) ?_ _
      clear y0 yf0 y1 yf1 y2 yf2 y3 yf3 y4 yf4 y5 yf5 y6 yf6 y7 yf7 B5 R5 X5 HG5
      go_upto_region 56 with fail
      obtain ⟨w5, hwn⟩ : ∃ x, ((((((((wv.setCell ⟨X, k * 128 + n0 * 8, none⟩ (.int .i64 okd)).setCell ⟨X, k * 128 + n0 * 8 + 1, none⟩ (.string omak)).setCell ⟨X, k * 128 + n0 * 8 + 2, none⟩ (.int .i64 obn)).setCell ⟨X, k * 128 + n0 * 8 + 3, none⟩ (.int .i64 onum)).setCell ⟨X, k * 128 + n0 * 8 + 4, none⟩ (.int .i64 ooff)).setCell ⟨X, k * 128 + n0 * 8 + 5, none⟩ (.bool ord)).setCell ⟨X, k * 128 + n0 * 8 + 6, none⟩ (.bool owr)).setCell ⟨X, k * 128 + n0 * 8 + 7, none⟩ (.bool oap)) = x := ⟨_, rfl⟩
      rw [hwn] at B6 R6 X6 HG6 ⊢
      clear hwn
      have hbd : Below w5.heap.size w5 w5.drew := (Below.refl _ _).drew
      have B7 := Lib.hid (B6.out.later hbd)
      have R7 := Lib.hid (R6.out.later hbd)
      have X7 := Lib.hid (X6.out.later hbd)
      have HG7 : Hid (Kept (fun k => k = X) w w5.drew) := HG6.out.trans (Kept.of_below hbd (fun _ => False)) (fun _ _ h => h.elim)
      clear hbd B6 R6 X6 HG6
      refine wp_region_held_drew (S := (fun W => RowIs W w.heap.size 49 [.int .u8 kd, .int .u8 who, .int .u8 tw, .int .i64 (n0 : Int), .int .i64 n, .int .i64 okd, .string omak, .int .i64 obn, .int .i64 onum, .int .i64 ooff, .bool ord, .bool owr, .bool oap] ∧ ResAt W (w.heap.size + 1) ⟨zeroTab, ⟨ekd, emak, ebn, enum, eoff, erd, ewr, eap⟩, 0, 0⟩)) (by kernel_rfl) (⟨B7.out, R7.out⟩) (fun hHeld0 => ?_)
      obtain ⟨wv, hwn⟩ : ∃ x, w5.drew = x := ⟨_, rfl⟩
      rw [hwn] at B7 R7 X7 HG7 hHeld0 ⊢
      clear hwn
      refine wpAnyH_take (i := 0) (v := resDV ⟨zeroTab, ⟨ekd, emak, ebn, enum, eoff, erd, ewr, eap⟩, 0, 0⟩) rfl (by kernel_rfl) (by kernel_rfl) (by kernel_rfl) (fun _ _ _ h => h) (Or.inl ⟨by rfl, ?_⟩) (by assumption) ?_
      · (intro wx hSw; (try dsimp only at hSw); exact exec_load_res (by rfl) (by rfl) hSw.2)
      try simp only [Act.put, List.setIfInBounds_toArray, List.set_cons_zero, List.set_cons_succ, List.getElem_toArray, List.getElem_cons_zero, List.getElem_cons_succ]
      refine wpAnyH_take (i := 1) (v := ?_) rfl (by kernel_rfl) (by kernel_rfl) (by kernel_rfl) (fun _ _ _ h => h) (Or.inl ⟨by rfl, ?_⟩) (by assumption) ?_
      rotate_left
      · (intro wx hSw; (try dsimp only at hSw); go_simp <;> with_reducible rfl)
      try simp only [Act.put, List.setIfInBounds_toArray, List.set_cons_zero, List.set_cons_succ, List.getElem_toArray, List.getElem_cons_zero, List.getElem_cons_succ]
      refine wpAnyH_take (i := 2) (v := ?_) rfl (by kernel_rfl) (by kernel_rfl) (by kernel_rfl) (fun _ _ _ h => h) (Or.inl ⟨by rfl, ?_⟩) (by assumption) ?_
      rotate_left
      · (intro wx hSw; (try dsimp only at hSw); have s0 := hSw.2.1.cell (resC_at hSw.2.2 (j := 0) rfl); have s1 := hSw.2.1.cell (resC_at hSw.2.2 (j := 1) rfl); have s2 := hSw.2.1.cell (resC_at hSw.2.2 (j := 2) rfl); have s3 := hSw.2.1.cell (resC_at hSw.2.2 (j := 3) rfl); have s4 := hSw.2.1.cell (resC_at hSw.2.2 (j := 4) rfl); have s5 := hSw.2.1.cell (resC_at hSw.2.2 (j := 5) rfl); have s6 := hSw.2.1.cell (resC_at hSw.2.2 (j := 6) rfl); have s7 := hSw.2.1.cell (resC_at hSw.2.2 (j := 7) rfl); go_simp <;> with_reducible rfl)
      try simp only [Act.put, List.setIfInBounds_toArray, List.set_cons_zero, List.set_cons_succ, List.getElem_toArray, List.getElem_cons_zero, List.getElem_cons_succ]
      refine wpAnyH_take (i := 3) (v := ?_) rfl (by kernel_rfl) (by kernel_rfl) (by kernel_rfl) (fun _ _ _ h => h) (Or.inl ⟨by rfl, ?_⟩) (by assumption) ?_
      rotate_left
      · (intro wx hSw; (try dsimp only at hSw); go_simp <;> with_reducible rfl)
      try simp only [Act.put, List.setIfInBounds_toArray, List.set_cons_zero, List.set_cons_succ, List.getElem_toArray, List.getElem_cons_zero, List.getElem_cons_succ]
      refine wpAnyH_take (i := 4) (v := ?_) rfl (by kernel_rfl) (by kernel_rfl) (by kernel_rfl) (fun _ _ _ h => h) (Or.inl ⟨by rfl, ?_⟩) (by assumption) ?_
      rotate_left
      · (intro wx hSw; (try dsimp only at hSw); have c5 := hSw.1.cell (i := 5) rfl; have c6 := hSw.1.cell (i := 6) rfl; have c7 := hSw.1.cell (i := 7) rfl; have c8 := hSw.1.cell (i := 8) rfl; have c9 := hSw.1.cell (i := 9) rfl; have c10 := hSw.1.cell (i := 10) rfl; have c11 := hSw.1.cell (i := 11) rfl; have c12 := hSw.1.cell (i := 12) rfl; go_simp <;> with_reducible rfl)
      try simp only [Act.put, List.setIfInBounds_toArray, List.set_cons_zero, List.set_cons_succ, List.getElem_toArray, List.getElem_cons_zero, List.getElem_cons_succ]
      refine wpAnyH_take (i := 5) (v := ?_) rfl (by kernel_rfl) (by kernel_rfl) (by kernel_rfl) (fun _ _ _ h => h) (Or.inl ⟨by rfl, ?_⟩) (by assumption) ?_
      rotate_left
      · (intro wx hSw; (try dsimp only at hSw); go_simp <;> with_reducible rfl)
      try simp only [Act.put, List.setIfInBounds_toArray, List.set_cons_zero, List.set_cons_succ, List.getElem_toArray, List.getElem_cons_zero, List.getElem_cons_succ]
      refine wpAnyH_ready (rs := [6]) (by kernel_rfl) (by simp) ?_
      refine AllReadyH.cons rfl (fun K hK => ?_) AllReadyH.nil
      have hst := R7.out.store (r' := ⟨zeroTab, ⟨ekd, emak, ebn, enum, eoff, erd, ewr, eap⟩, 0, 0⟩) rfl
      have hsz : (resC ⟨zeroTab, ⟨ekd, emak, ebn, enum, eoff, erd, ewr, eap⟩, 0, 0⟩).toArray.size = 138 := by rw [List.size_toArray, resC_len rfl]
      have hg : wv.grownBy (wv.setRow (w.heap.size + 1) (resC ⟨zeroTab, ⟨ekd, emak, ebn, enum, eoff, erd, ewr, eap⟩, 0, 0⟩).toArray) (some (w.heap.size + 1)) := grown_setRow _ _ _
      have HF : Hid (ResAt (wv.setRow (w.heap.size + 1) (resC ⟨zeroTab, ⟨ekd, emak, ebn, enum, eoff, erd, ewr, eap⟩, 0, 0⟩).toArray) (w.heap.size + 1) ⟨zeroTab, ⟨ekd, emak, ebn, enum, eoff, erd, ewr, eap⟩, 0, 0⟩) := R7.out.setRow rfl
      have XF : Hid (ModAt (wv.setRow (w.heap.size + 1) (resC ⟨zeroTab, ⟨ekd, emak, ebn, enum, eoff, erd, ewr, eap⟩, 0, 0⟩).toArray) X ⟨m.tabs.set k ((mTab m k).set n0 ⟨okd, omak, obn, onum, ooff, ord, owr, oap⟩), m.there⟩) := X7.out.kept (hg.block _ X7.out.1.lt (by have := Hxl.out; simp; omega))
      have GF : Hid (Kept (fun k => k = X) w (wv.setRow (w.heap.size + 1) (resC ⟨zeroTab, ⟨ekd, emak, ebn, enum, eoff, erd, ewr, eap⟩, 0, 0⟩).toArray)) := HG7.out.trans (Kept.of_grown hg (fun k => k = (w.heap.size + 1)) (fun k hk => (Option.some.inj hk).symm)) (fun i hi e => by omega)
      have BF := Lib.hid (B7.out.kept (hg.block _ B7.out.lt (by simp)))
      clear hg
      unfold resDV
      go_simp
      refine hK.out _ _ (⟨BF.out, HF.out⟩) (fun hHeld1 => ?_)
      clear hK K hHeld0
      try simp only [Act.put, List.setIfInBounds_toArray, List.set_cons_zero, List.set_cons_succ, List.getElem_toArray, List.getElem_cons_zero, List.getElem_cons_succ]
      refine wpAnyH_take (i := 7) (v := ?_) rfl (by kernel_rfl) (by kernel_rfl) (by kernel_rfl) (fun _ _ _ h => h) (Or.inl ⟨by rfl, ?_⟩) (by assumption) ?_
      rotate_left
      · (intro wx hSw; (try dsimp only at hSw); go_simp <;> with_reducible rfl)
      try simp only [Act.put, List.setIfInBounds_toArray, List.set_cons_zero, List.set_cons_succ, List.getElem_toArray, List.getElem_cons_zero, List.getElem_cons_succ]
      refine wpAnyH_done (by kernel_rfl) ?_ _
      go_wp2
      refine bodyPost_ret (v := .tuple #[resDV ⟨zeroTab, ⟨ekd, emak, ebn, enum, eoff, erd, ewr, eap⟩, 0, 0⟩, .bool !sameO ⟨ekd, emak, ebn, enum, eoff, erd, ewr, eap⟩ ⟨okd, omak, obn, onum, ooff, ord, owr, oap⟩]) (results_res2 rfl _ _ (w.heap.size + 1) (by rfl) (by rfl) HF.out) rfl ?_
      unfold DoPost
      rw [HP.out]
      exact ⟨rfl, XF.out, GF.out⟩
    · have hq' : ((q : Int) != 0) = true := bne_iff_ne.2 (by omega)
      have HP : Hid (mdo m ⟨kd, who, tw, fd, n, ⟨okd, omak, obn, onum, ooff, ord, owr, oap⟩⟩ = (m, errD q, false)) := HP0.out.trans (if_pos h0)
      clear HP0
      clear h0
      have hst := R2.out.store (r' := (errD q)) rfl
      have hsz : (resC (errD q)).toArray.size = 138 := by rw [List.size_toArray, resC_len rfl]
      have hg : w3.grownBy (w3.setRow (w.heap.size + 1) (resC (errD q)).toArray) (some (w.heap.size + 1)) := grown_setRow _ _ _
      have HF : Hid (ResAt (w3.setRow (w.heap.size + 1) (resC (errD q)).toArray) (w.heap.size + 1) (errD q)) := R2.out.setRow rfl
      have XF : Hid (ModAt (w3.setRow (w.heap.size + 1) (resC (errD q)).toArray) X m) := X2.out.kept (hg.block _ X2.out.1.lt (by have := Hxl.out; simp; omega))
      have GF : Hid (Kept (fun k => k = X) w (w3.setRow (w.heap.size + 1) (resC (errD q)).toArray)) := HG2.out.trans (Kept.of_grown hg (fun k => k = (w.heap.size + 1)) (fun k hk => (Option.some.inj hk).symm)) (fun i hi e => by omega)
      clear hg
      go_wp2
      refine bodyPost_ret (v := .tuple #[resDV (errD q), .bool false]) (results_res2 rfl _ _ (w.heap.size + 1) (by rfl) (by rfl) HF.out) rfl ?_
      unfold DoPost
      rw [HP.out]
      exact ⟨rfl, XF.out, GF.out⟩
  · have hq' : ((q1 : Int) != 0) = true := bne_iff_ne.2 (by omega)
    have HP : Hid (mdo m ⟨kd, who, tw, fd, n, ⟨okd, omak, obn, onum, ooff, ord, owr, oap⟩⟩ = (m, errD q1, false)) := HP0.out.trans (if_pos h1)
    clear HP0 h1
    have hst := R2.out.store (r' := (errD q1)) rfl
    have hsz : (resC (errD q1)).toArray.size = 138 := by rw [List.size_toArray, resC_len rfl]
    have hg : w3.grownBy (w3.setRow (w.heap.size + 1) (resC (errD q1)).toArray) (some (w.heap.size + 1)) := grown_setRow _ _ _
    have HF : Hid (ResAt (w3.setRow (w.heap.size + 1) (resC (errD q1)).toArray) (w.heap.size + 1) (errD q1)) := R2.out.setRow rfl
    have XF : Hid (ModAt (w3.setRow (w.heap.size + 1) (resC (errD q1)).toArray) X m) := X2.out.kept (hg.block _ X2.out.1.lt (by have := Hxl.out; simp; omega))
    have GF : Hid (Kept (fun k => k = X) w (w3.setRow (w.heap.size + 1) (resC (errD q1)).toArray)) := HG2.out.trans (Kept.of_grown hg (fun k => k = (w.heap.size + 1)) (fun k hk => (Option.some.inj hk).symm)) (fun i hi e => by omega)
    clear hg
    go_wp2
    refine bodyPost_ret (v := .tuple #[resDV (errD q1), .bool false]) (results_res2 rfl _ _ (w.heap.size + 1) (by rfl) (by rfl) HF.out) rfl ?_
    unfold DoPost
    rw [HP.out]
    exact ⟨rfl, XF.out, GF.out⟩
end Go.Proofs.YtfchfjipkggnkaaGreatDoor
