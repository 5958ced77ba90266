/- Law 31: the model's do, kinds 0,1,2,3. (printed by wip/gen_dscme.py) -/
import Derived.Test.YtfchfjipkggnkaaGreatDoorDscMw
import Derived.Test.YtfchfjipkggnkaaGreatDoorDscCk
import Derived.Deep.QuietTactic
import Derived.BigQuiet
import Derived.IntWalk
import Derived.Deep.RegionHeld3
namespace Go.Proofs.YtfchfjipkggnkaaGreatDoor
open Go.RowKit
attribute [local go_sem ↓] run_eql_opn run_neq_opn Go.wp_at_zero Go.wp_at_succ
attribute [local go_sem ↓] bld_O bld_E bld_N bld_12 bld_13 bld_9 bld_21 bld_11 bld_2

set_option linter.unusedSimpArgs false in
set_option maxRecDepth 100000 in
set_option maxHeartbeats 25600000 in
theorem mdo_0 (kd who tw : Nat) (fd n okd : Int) (omak : ByteArray) (obn onum ooff : Int) (ord owr oap : Bool) (X : Nat) (m : ModD) (w : World) (hX : ModAt w X m) (hk : kd < 256) (hw : who < 256) (ht : tw < 256) (hd : -9223372036854775808 ≤ n ∧ n ≤ 9223372036854775807) (hmk : omak.size ≤ 70368744177664) (hTE : ∀ t ∈ m.tabs, tabE t = 0) (hm : kd % 11 = 0) :
    Calls Tryz.prog 21 #[.pointer (some ⟨X, 0, none⟩), .agg #[.int .u8 kd, .int .u8 who, .int .u8 tw, .int .i64 fd, .int .i64 n, .int .i64 okd, .string omak, .int .i64 obn, .int .i64 onum, .int .i64 ooff, .bool ord, .bool owr, .bool oap]] w (DoPost w X (mdo m ⟨kd, who, tw, fd, n, ⟨okd, omak, obn, onum, ooff, ord, owr, oap⟩⟩)) := by
  have HX : Hid (∀ W, Below w.heap.size w W → ModAt W X m) := fun W h => hX.later h
  have Hxl : Hid (X < w.heap.size) := hX.1.lt
  have HB0 : Hid (Below w.heap.size w ((w.alloc (.cells #[.int .u8 kd, .int .u8 who, .int .u8 tw, .int .i64 fd, .int .i64 n, .int .i64 okd, .string omak, .int .i64 obn, .int .i64 onum, .int .i64 ooff, .bool ord, .bool owr, .bool oap] 49)).alloc (.cells Tryz.zeroCells52 52))) := ((Below.refl _ _).alloc (Nat.le_refl _) _).alloc (by simp) _
  have B0 : Hid (RowIs ((w.alloc (.cells #[.int .u8 kd, .int .u8 who, .int .u8 tw, .int .i64 fd, .int .i64 n, .int .i64 okd, .string omak, .int .i64 obn, .int .i64 onum, .int .i64 ooff, .bool ord, .bool owr, .bool oap] 49)).alloc (.cells Tryz.zeroCells52 52)) w.heap.size 49 [.int .u8 kd, .int .u8 who, .int .u8 tw, .int .i64 fd, .int .i64 n, .int .i64 okd, .string omak, .int .i64 obn, .int .i64 onum, .int .i64 ooff, .bool ord, .bool owr, .bool oap]) := (new_row w 49 [.int .u8 kd, .int .u8 who, .int .u8 tw, .int .i64 fd, .int .i64 n, .int .i64 okd, .string omak, .int .i64 obn, .int .i64 onum, .int .i64 ooff, .bool ord, .bool owr, .bool oap]).later ((Below.refl _ _).alloc (Nat.le_refl _) _)
  have R0 : Hid (ResAt ((w.alloc (.cells #[.int .u8 kd, .int .u8 who, .int .u8 tw, .int .i64 fd, .int .i64 n, .int .i64 okd, .string omak, .int .i64 obn, .int .i64 onum, .int .i64 ooff, .bool ord, .bool owr, .bool oap] 49)).alloc (.cells Tryz.zeroCells52 52)) (w.heap.size + 1) (errD 0)) := by
    have := new_res (w.alloc (.cells #[.int .u8 kd, .int .u8 who, .int .u8 tw, .int .i64 fd, .int .i64 n, .int .i64 okd, .string omak, .int .i64 obn, .int .i64 onum, .int .i64 ooff, .bool ord, .bool owr, .bool oap] 49))
    rw [World.size_alloc] at this
    exact this
  have X0 := Lib.hid (HX.out _ HB0.out)
  obtain ⟨k, hk4⟩ : ∃ k : Nat, who % 4 = k := ⟨_, rfl⟩
  obtain ⟨i, hi4⟩ : ∃ i : Nat, tw % 4 = i := ⟨_, rfl⟩
  have HK : Hid (who % 4 = k ∧ k < 4) := ⟨hk4, by omega⟩
  have HI : Hid (tw % 4 = i ∧ i < 4) := ⟨hi4, by omega⟩
  have htk : (who : Int).tmod 4 = (k : Int) := by rw [Int.tmod_eq_emod_of_nonneg (by omega)]; omega
  have hti : (tw : Int).tmod 4 = (i : Int) := by rw [Int.tmod_eq_emod_of_nonneg (by omega)]; omega
  have k0 : (0 : Int) ≤ (k : Int) := by omega
  have k1 : (k : Int) < 4 := by omega
  have i0 : (0 : Int) ≤ (i : Int) := by omega
  have i1 : (i : Int) < 4 := by omega
  have Hd := Lib.hid hd
  have Hmk := Lib.hid hmk
  have HTE := Lib.hid hTE
  have hkn : (0 : Int) ≤ (kd : Int) := by omega
  have hkx : (kd : Int) ≤ 255 := by omega
  have hwn : (0 : Int) ≤ (who : Int) := by omega
  have hwx : (who : Int) ≤ 255 := by omega
  have htn : (0 : Int) ≤ (tw : Int) := by omega
  have htx : (tw : Int) ≤ 255 := by omega
  have HM := Lib.hid hm
  clear hd hmk hTE hk4 hi4 hX hm
  go_enter Tryz.func21, Tryz.ntmps21
  go_upto_region 1 with fail
  obtain ⟨w1, hw1⟩ : ∃ w1, ((w.alloc (.cells #[.int .u8 kd, .int .u8 who, .int .u8 tw, .int .i64 fd, .int .i64 n, .int .i64 okd, .string omak, .int .i64 obn, .int .i64 onum, .int .i64 ooff, .bool ord, .bool owr, .bool oap] 49)).alloc (.cells Tryz.zeroCells52 52)) = w1 := ⟨_, rfl⟩
  rw [hw1] at HB0 B0 R0 X0 ⊢
  clear hw1
  have b1 := B0.out.cell (i := 1) rfl
  have b2 := B0.out.cell (i := 2) rfl
  have hi64k : IntKind.i64.wrap (k : Int) = (k : Int) := IntWalk.i64_in _ (by omega)
  have hi64i : IntKind.i64.wrap (i : Int) = (i : Int) := IntWalk.i64_in _ (by omega)
  go_quiet (fail)
  clear b1 b2 htk hti hi64k hi64i
  have hbd : Below w1.heap.size w1 (w1.drewN nq) := ⟨rfl, rfl, rfl, Nat.le_refl _, fun _ _ => rfl⟩
  have HG1 : Hid (Kept (fun k => k = X) w (w1.drewN nq)) := Kept.of_below (HB0.out.trans (hbd.mono HB0.out.size)) _
  have B1 := Lib.hid (B0.out.later hbd)
  have R1 := Lib.hid (R0.out.later hbd)
  have X1 := Lib.hid (X0.out.later hbd)
  clear hbd HB0 B0 R0 X0
  generalize w1.drewN nq = w2 at *
  have hm := HM.out
  have hmi : (kd : Int) % 11 = 0 := by omega
  have HP0 : Hid (mdo m ⟨kd, who, tw, fd, n, ⟨okd, omak, obn, onum, ooff, ord, owr, oap⟩⟩ = mMake m k) := by
    show _ = _
    rw [mD0 (o := ⟨kd, who, tw, fd, n, ⟨okd, omak, obn, onum, ooff, ord, owr, oap⟩⟩) hm]
    dsimp only
    rw [HK.out.1]
  clear HM hm
  have b0 := B1.out.cell (i := 0) rfl
  have b4 := B1.out.cell (i := 4) rfl
  by_cases h3 : k = 3
  · subst h3
    have HP : Hid (mdo m ⟨kd, who, tw, fd, n, ⟨okd, omak, obn, onum, ooff, ord, owr, oap⟩⟩ = (m, errD 12, false)) := HP0.out.trans (if_pos rfl)
    clear HP0
    have hst := R1.out.store (r' := (errD 12)) rfl
    have hsz : (resC (errD 12)).toArray.size = 138 := by rw [List.size_toArray, resC_len rfl]
    have hg : w2.grownBy (w2.setRow (w.heap.size + 1) (resC (errD 12)).toArray) (some (w.heap.size + 1)) := grown_setRow _ _ _
    have HF : Hid (ResAt (w2.setRow (w.heap.size + 1) (resC (errD 12)).toArray) (w.heap.size + 1) (errD 12)) := R1.out.setRow rfl
    have XF : Hid (ModAt (w2.setRow (w.heap.size + 1) (resC (errD 12)).toArray) X m) := X1.out.kept (hg.block _ X1.out.1.lt (by have := Hxl.out; simp; omega))
    have GF : Hid (Kept (fun k => k = X) w (w2.setRow (w.heap.size + 1) (resC (errD 12)).toArray)) := HG1.out.trans (Kept.of_grown hg (fun k => k = (w.heap.size + 1)) (fun k hk => (Option.some.inj hk).symm)) (fun i hi e => by omega)
    clear hg
    go_wp2
    refine bodyPost_ret (v := .tuple #[resDV (errD 12), .bool false]) (results_res2 rfl _ _ (w.heap.size + 1) (by rfl) (by rfl) HF.out) rfl ?_
    unfold DoPost
    rw [HP.out]
    exact ⟨rfl, XF.out, GF.out⟩
  · have h3' : ((k : Int) == 3) = false := beq_eq_false_iff_ne.2 (by omega)
    have c := X1.out.there HK.out.2
    cases hb : mThere m k with
    | true =>
      rw [hb] at c
      have HP : Hid (mdo m ⟨kd, who, tw, fd, n, ⟨okd, omak, obn, onum, ooff, ord, owr, oap⟩⟩ = (m, errD 13, false)) := HP0.out.trans ((if_neg h3).trans (if_pos hb))
      clear HP0
      clear h3 hb
      have hst := R1.out.store (r' := (errD 13)) rfl
      have hsz : (resC (errD 13)).toArray.size = 138 := by rw [List.size_toArray, resC_len rfl]
      have hg : w2.grownBy (w2.setRow (w.heap.size + 1) (resC (errD 13)).toArray) (some (w.heap.size + 1)) := grown_setRow _ _ _
      have HF : Hid (ResAt (w2.setRow (w.heap.size + 1) (resC (errD 13)).toArray) (w.heap.size + 1) (errD 13)) := R1.out.setRow rfl
      have XF : Hid (ModAt (w2.setRow (w.heap.size + 1) (resC (errD 13)).toArray) X m) := X1.out.kept (hg.block _ X1.out.1.lt (by have := Hxl.out; simp; omega))
      have GF : Hid (Kept (fun k => k = X) w (w2.setRow (w.heap.size + 1) (resC (errD 13)).toArray)) := HG1.out.trans (Kept.of_grown hg (fun k => k = (w.heap.size + 1)) (fun k hk => (Option.some.inj hk).symm)) (fun i hi e => by omega)
      clear hg
      go_wp2
      refine bodyPost_ret (v := .tuple #[resDV (errD 13), .bool false]) (results_res2 rfl _ _ (w.heap.size + 1) (by rfl) (by rfl) HF.out) rfl ?_
      unfold DoPost
      rw [HP.out]
      exact ⟨rfl, XF.out, GF.out⟩
    | false =>
      rw [hb] at c
      have HP : Hid (mdo m ⟨kd, who, tw, fd, n, ⟨okd, omak, obn, onum, ooff, ord, owr, oap⟩⟩ = (⟨m.tabs.set k zeroTab, m.there.set k true⟩, errD 0, true)) := HP0.out.trans ((if_neg h3).trans (if_neg (by rw [hb]; decide)))
      clear HP0
      clear h3 hb
      go_upto_region 9 with fail
      clear c b0 b4 h3'
      have hbd : Below w2.heap.size w2 w2.drew := (Below.refl _ _).drew
      have B2 := Lib.hid (B1.out.later hbd)
      have R2 := Lib.hid (R1.out.later hbd)
      have X2 := Lib.hid (X1.out.later hbd)
      have HG2 : Hid (Kept (fun k => k = X) w w2.drew) := HG1.out.trans (Kept.of_below hbd (fun _ => False)) (fun _ _ h => h.elim)
      clear hbd B1 R1 X1 HG1
      refine wp_region_held_drew (S := (fun _ => True)) (by kernel_rfl) (trivial) (fun hHeld0 => ?_)
      obtain ⟨wv, hwn⟩ : ∃ x, w2.drew = x := ⟨_, rfl⟩
      rw [hwn] at B2 R2 X2 HG2 ⊢
      clear hwn
      refine wpAnyH_take (i := 0) (v := ?_) rfl (by kernel_rfl) (by kernel_rfl) (by kernel_rfl) (fun _ _ _ h => h) (Or.inl ⟨by rfl, ?_⟩) (by assumption) ?_
      rotate_left
      · (intro wx hSw; (try dsimp only at hSw); go_simp <;> with_reducible rfl)
      try simp only [Act.put, List.setIfInBounds_toArray, List.set_cons_zero, List.set_cons_succ, List.getElem_toArray, List.getElem_cons_zero, List.getElem_cons_succ]
      refine wpAnyH_take (i := 1) (v := ?_) rfl (by kernel_rfl) (by kernel_rfl) (by kernel_rfl) (fun _ _ _ h => h) (Or.inl ⟨by rfl, ?_⟩) (by assumption) ?_
      rotate_left
      · (intro wx hSw; (try dsimp only at hSw); go_simp <;> with_reducible rfl)
      try simp only [Act.put, List.setIfInBounds_toArray, List.set_cons_zero, List.set_cons_succ, List.getElem_toArray, List.getElem_cons_zero, List.getElem_cons_succ]
      refine wpAnyH_take (i := 2) (v := ?_) rfl (by kernel_rfl) (by kernel_rfl) (by kernel_rfl) (fun _ _ _ h => h) (Or.inl ⟨by rfl, ?_⟩) (by assumption) ?_
      rotate_left
      · (intro wx hSw; (try dsimp only at hSw); go_simp <;> with_reducible rfl)
      try simp only [Act.put, List.setIfInBounds_toArray, List.set_cons_zero, List.set_cons_succ, List.getElem_toArray, List.getElem_cons_zero, List.getElem_cons_succ]
      refine wpAnyH_take (i := 3) (v := ?_) rfl (by kernel_rfl) (by kernel_rfl) (by kernel_rfl) (fun _ _ _ h => h) (Or.inl ⟨by rfl, ?_⟩) (by assumption) ?_
      rotate_left
      · (intro wx hSw; (try dsimp only at hSw); go_simp <;> with_reducible rfl)
      try simp only [Act.put, List.setIfInBounds_toArray, List.set_cons_zero, List.set_cons_succ, List.getElem_toArray, List.getElem_cons_zero, List.getElem_cons_succ]
      refine wpAnyH_take (i := 4) (v := ?_) rfl (by kernel_rfl) (by kernel_rfl) (by kernel_rfl) (fun _ _ _ h => h) (Or.inl ⟨by rfl, ?_⟩) (by assumption) ?_
      rotate_left
      · (intro wx hSw; (try dsimp only at hSw); go_simp <;> with_reducible rfl)
      try simp only [Act.put, List.setIfInBounds_toArray, List.set_cons_zero, List.set_cons_succ, List.getElem_toArray, List.getElem_cons_zero, List.getElem_cons_succ]
      refine wpAnyH_take (i := 5) (v := ?_) rfl (by kernel_rfl) (by kernel_rfl) (by kernel_rfl) (fun _ _ _ h => h) (Or.inl ⟨by rfl, ?_⟩) (by assumption) ?_
      rotate_left
      · (intro wx hSw; (try dsimp only at hSw); go_simp <;> with_reducible rfl)
      try simp only [Act.put, List.setIfInBounds_toArray, List.set_cons_zero, List.set_cons_succ, List.getElem_toArray, List.getElem_cons_zero, List.getElem_cons_succ]
      refine wpAnyH_take (i := 6) (v := ?_) rfl (by kernel_rfl) (by kernel_rfl) (by kernel_rfl) (fun _ _ _ h => h) (Or.inl ⟨by rfl, ?_⟩) (by assumption) ?_
      rotate_left
      · (intro wx hSw; (try dsimp only at hSw); go_simp <;> with_reducible rfl)
      try simp only [Act.put, List.setIfInBounds_toArray, List.set_cons_zero, List.set_cons_succ, List.getElem_toArray, List.getElem_cons_zero, List.getElem_cons_succ]
      refine wpAnyH_take (i := 7) (v := ?_) rfl (by kernel_rfl) (by kernel_rfl) (by kernel_rfl) (fun _ _ _ h => h) (Or.inl ⟨by rfl, ?_⟩) (by assumption) ?_
      rotate_left
      · (intro wx hSw; (try dsimp only at hSw); go_simp <;> with_reducible rfl)
      try simp only [Act.put, List.setIfInBounds_toArray, List.set_cons_zero, List.set_cons_succ, List.getElem_toArray, List.getElem_cons_zero, List.getElem_cons_succ]
      refine wpAnyH_take (i := 9) (v := ?_) rfl (by kernel_rfl) (by kernel_rfl) (by kernel_rfl) (fun _ _ _ h => h) (Or.inl ⟨by rfl, ?_⟩) (by assumption) ?_
      rotate_left
      · (intro wx hSw; (try dsimp only at hSw); go_simp <;> with_reducible rfl)
      try simp only [Act.put, List.setIfInBounds_toArray, List.set_cons_zero, List.set_cons_succ, List.getElem_toArray, List.getElem_cons_zero, List.getElem_cons_succ]
      refine wpAnyH_take (i := 10) (v := ?_) rfl (by kernel_rfl) (by kernel_rfl) (by kernel_rfl) (fun _ _ _ h => h) (Or.inl ⟨by rfl, ?_⟩) (by assumption) ?_
      rotate_left
      · (intro wx hSw; (try dsimp only at hSw); go_simp <;> with_reducible rfl)
      try simp only [Act.put, List.setIfInBounds_toArray, List.set_cons_zero, List.set_cons_succ, List.getElem_toArray, List.getElem_cons_zero, List.getElem_cons_succ]
      refine wpAnyH_ready (rs := [8]) (by kernel_rfl) (by simp) ?_
      refine AllReadyH.cons rfl (fun K hK => ?_) AllReadyH.nil
      have c := X2.out.there HK.out.2
      have cf := X2.out.free (512 + k)
      have hg : wv.grownBy (wv.setCell ⟨X, 512 + k, none⟩ (.bool true)) (some X) := grown_setCell _ _ _ _
      have B3 := Lib.hid (B2.out.kept (hg.block _ B2.out.lt (by have := Hxl.out; simp; omega)))
      have R3 := Lib.hid (R2.out.kept (hg.block _ R2.out.1.lt (by have := Hxl.out; simp; omega)))
      have X3 : Hid (ModAt (wv.setCell ⟨X, 512 + k, none⟩ (.bool true)) X ⟨m.tabs, m.there.set k true⟩) := X2.out.setThere k true
      have HG3 : Hid (Kept (fun k => k = X) w (wv.setCell ⟨X, 512 + k, none⟩ (.bool true))) := HG2.out.trans (Kept.of_grown hg (fun k => k = X) (fun k hk => (Option.some.inj hk).symm)) (fun _ _ h => h)
      clear hg
      go_simp
      refine hK.out _ _ (trivial) (fun hHeld1 => ?_)
      clear hK K hHeld0
      try simp only [Act.put, List.setIfInBounds_toArray, List.set_cons_zero, List.set_cons_succ, List.getElem_toArray, List.getElem_cons_zero, List.getElem_cons_succ]
      refine wpAnyH_take (i := 11) (v := ?_) rfl (by kernel_rfl) (by kernel_rfl) (by kernel_rfl) (fun _ _ _ h => h) (Or.inl ⟨by rfl, ?_⟩) (by assumption) ?_
      rotate_left
      · (intro wx hSw; (try dsimp only at hSw); go_simp <;> with_reducible rfl)
      try simp only [Act.put, List.setIfInBounds_toArray, List.set_cons_zero, List.set_cons_succ, List.getElem_toArray, List.getElem_cons_zero, List.getElem_cons_succ]
      refine wpAnyH_ready (rs := [12]) (by kernel_rfl) (by simp) ?_
      refine AllReadyH.cons rfl (fun K hK => ?_) AllReadyH.nil
      clear c cf B2 R2 X2 HG2
      obtain ⟨wx, hwn⟩ : ∃ x, (wv.setCell ⟨X, 512 + k, none⟩ (.bool true)) = x := ⟨_, rfl⟩
      rw [hwn] at B3 R3 X3 HG3 ⊢
      clear hwn
      have hst := (X3.out.storeTab HK.out.2 zeroTab_len).1
      rw [← zero_tab] at hst
      have hg : wx.grownBy (wx.setRow X (modC ⟨m.tabs.set k zeroTab, m.there.set k true⟩).toArray) (some X) := grown_setRow _ _ _
      have B4 := Lib.hid (B3.out.kept (hg.block _ B3.out.lt (by have := Hxl.out; simp; omega)))
      have R4 := Lib.hid (R3.out.kept (hg.block _ R3.out.1.lt (by have := Hxl.out; simp; omega)))
      have X4 : Hid (ModAt (wx.setRow X (modC ⟨m.tabs.set k zeroTab, m.there.set k true⟩).toArray) X ⟨m.tabs.set k zeroTab, m.there.set k true⟩) := (X3.out.storeTab HK.out.2 zeroTab_len).2
      have HG4 : Hid (Kept (fun k => k = X) w (wx.setRow X (modC ⟨m.tabs.set k zeroTab, m.there.set k true⟩).toArray)) := HG3.out.trans (Kept.of_grown hg (fun k => k = X) (fun k hk => (Option.some.inj hk).symm)) (fun _ _ h => h)
      clear hg
      go_simp
      refine hK.out _ _ (trivial) (fun hHeld2 => ?_)
      clear hK K hHeld1
      try simp only [Act.put, List.setIfInBounds_toArray, List.set_cons_zero, List.set_cons_succ, List.getElem_toArray, List.getElem_cons_zero, List.getElem_cons_succ]
      refine wpAnyH_done (by kernel_rfl) ?_ _
      clear hst
      obtain ⟨wy, hwn⟩ : ∃ x, (wx.setRow X (modC ⟨m.tabs.set k zeroTab, m.there.set k true⟩).toArray) = x := ⟨_, rfl⟩
      rw [hwn] at B4 R4 X4 HG4 ⊢
      clear hwn
      have hst : (storeCells ⟨w.heap.size + 1, 0, none⟩ Tryz.zeroCells52.toList).run Tryz.prog wy = .ok () (wy.setRow (w.heap.size + 1) (resC (errD 0)).toArray) := by
        rw [zero_res]
        exact R4.out.store rfl
      have hsz : (resC (errD 0)).toArray.size = 138 := by rw [List.size_toArray, resC_len rfl]
      have hg : wy.grownBy (wy.setRow (w.heap.size + 1) (resC (errD 0)).toArray) (some (w.heap.size + 1)) := grown_setRow _ _ _
      have HF : Hid (ResAt (wy.setRow (w.heap.size + 1) (resC (errD 0)).toArray) (w.heap.size + 1) (errD 0)) := R4.out.setRow rfl
      have XF : Hid (ModAt (wy.setRow (w.heap.size + 1) (resC (errD 0)).toArray) X ⟨m.tabs.set k zeroTab, m.there.set k true⟩) := X4.out.kept (hg.block _ X4.out.1.lt (by have := Hxl.out; simp; omega))
      have GF : Hid (Kept (fun k => k = X) w (wy.setRow (w.heap.size + 1) (resC (errD 0)).toArray)) := HG4.out.trans (Kept.of_grown hg (fun k => k = (w.heap.size + 1)) (fun k hk => (Option.some.inj hk).symm)) (fun i hi e => by omega)
      clear hg
      go_wp2
      refine bodyPost_ret (v := .tuple #[resDV (errD 0), .bool true]) (results_res2 rfl _ _ (w.heap.size + 1) (by rfl) (by rfl) HF.out) rfl ?_
      unfold DoPost
      rw [HP.out]
      exact ⟨rfl, XF.out, GF.out⟩
set_option linter.unusedSimpArgs false in
set_option maxRecDepth 100000 in
set_option maxHeartbeats 25600000 in
theorem mdo_1 (kd who tw : Nat) (fd n okd : Int) (omak : ByteArray) (obn onum ooff : Int) (ord owr oap : Bool) (X : Nat) (m : ModD) (w : World) (hX : ModAt w X m) (hk : kd < 256) (hw : who < 256) (ht : tw < 256) (hd : -9223372036854775808 ≤ n ∧ n ≤ 9223372036854775807) (hmk : omak.size ≤ 70368744177664) (hTE : ∀ t ∈ m.tabs, tabE t = 0) (hm : kd % 11 = 1) :
    Calls Tryz.prog 21 #[.pointer (some ⟨X, 0, none⟩), .agg #[.int .u8 kd, .int .u8 who, .int .u8 tw, .int .i64 fd, .int .i64 n, .int .i64 okd, .string omak, .int .i64 obn, .int .i64 onum, .int .i64 ooff, .bool ord, .bool owr, .bool oap]] w (DoPost w X (mdo m ⟨kd, who, tw, fd, n, ⟨okd, omak, obn, onum, ooff, ord, owr, oap⟩⟩)) := by
  have HX : Hid (∀ W, Below w.heap.size w W → ModAt W X m) := fun W h => hX.later h
  have Hxl : Hid (X < w.heap.size) := hX.1.lt
  have HB0 : Hid (Below w.heap.size w ((w.alloc (.cells #[.int .u8 kd, .int .u8 who, .int .u8 tw, .int .i64 fd, .int .i64 n, .int .i64 okd, .string omak, .int .i64 obn, .int .i64 onum, .int .i64 ooff, .bool ord, .bool owr, .bool oap] 49)).alloc (.cells Tryz.zeroCells52 52))) := ((Below.refl _ _).alloc (Nat.le_refl _) _).alloc (by simp) _
  have B0 : Hid (RowIs ((w.alloc (.cells #[.int .u8 kd, .int .u8 who, .int .u8 tw, .int .i64 fd, .int .i64 n, .int .i64 okd, .string omak, .int .i64 obn, .int .i64 onum, .int .i64 ooff, .bool ord, .bool owr, .bool oap] 49)).alloc (.cells Tryz.zeroCells52 52)) w.heap.size 49 [.int .u8 kd, .int .u8 who, .int .u8 tw, .int .i64 fd, .int .i64 n, .int .i64 okd, .string omak, .int .i64 obn, .int .i64 onum, .int .i64 ooff, .bool ord, .bool owr, .bool oap]) := (new_row w 49 [.int .u8 kd, .int .u8 who, .int .u8 tw, .int .i64 fd, .int .i64 n, .int .i64 okd, .string omak, .int .i64 obn, .int .i64 onum, .int .i64 ooff, .bool ord, .bool owr, .bool oap]).later ((Below.refl _ _).alloc (Nat.le_refl _) _)
  have R0 : Hid (ResAt ((w.alloc (.cells #[.int .u8 kd, .int .u8 who, .int .u8 tw, .int .i64 fd, .int .i64 n, .int .i64 okd, .string omak, .int .i64 obn, .int .i64 onum, .int .i64 ooff, .bool ord, .bool owr, .bool oap] 49)).alloc (.cells Tryz.zeroCells52 52)) (w.heap.size + 1) (errD 0)) := by
    have := new_res (w.alloc (.cells #[.int .u8 kd, .int .u8 who, .int .u8 tw, .int .i64 fd, .int .i64 n, .int .i64 okd, .string omak, .int .i64 obn, .int .i64 onum, .int .i64 ooff, .bool ord, .bool owr, .bool oap] 49))
    rw [World.size_alloc] at this
    exact this
  have X0 := Lib.hid (HX.out _ HB0.out)
  obtain ⟨k, hk4⟩ : ∃ k : Nat, who % 4 = k := ⟨_, rfl⟩
  obtain ⟨i, hi4⟩ : ∃ i : Nat, tw % 4 = i := ⟨_, rfl⟩
  have HK : Hid (who % 4 = k ∧ k < 4) := ⟨hk4, by omega⟩
  have HI : Hid (tw % 4 = i ∧ i < 4) := ⟨hi4, by omega⟩
  have htk : (who : Int).tmod 4 = (k : Int) := by rw [Int.tmod_eq_emod_of_nonneg (by omega)]; omega
  have hti : (tw : Int).tmod 4 = (i : Int) := by rw [Int.tmod_eq_emod_of_nonneg (by omega)]; omega
  have k0 : (0 : Int) ≤ (k : Int) := by omega
  have k1 : (k : Int) < 4 := by omega
  have i0 : (0 : Int) ≤ (i : Int) := by omega
  have i1 : (i : Int) < 4 := by omega
  have Hd := Lib.hid hd
  have Hmk := Lib.hid hmk
  have HTE := Lib.hid hTE
  have hkn : (0 : Int) ≤ (kd : Int) := by omega
  have hkx : (kd : Int) ≤ 255 := by omega
  have hwn : (0 : Int) ≤ (who : Int) := by omega
  have hwx : (who : Int) ≤ 255 := by omega
  have htn : (0 : Int) ≤ (tw : Int) := by omega
  have htx : (tw : Int) ≤ 255 := by omega
  have HM := Lib.hid hm
  clear hd hmk hTE hk4 hi4 hX hm
  go_enter Tryz.func21, Tryz.ntmps21
  go_upto_region 1 with fail
  obtain ⟨w1, hw1⟩ : ∃ w1, ((w.alloc (.cells #[.int .u8 kd, .int .u8 who, .int .u8 tw, .int .i64 fd, .int .i64 n, .int .i64 okd, .string omak, .int .i64 obn, .int .i64 onum, .int .i64 ooff, .bool ord, .bool owr, .bool oap] 49)).alloc (.cells Tryz.zeroCells52 52)) = w1 := ⟨_, rfl⟩
  rw [hw1] at HB0 B0 R0 X0 ⊢
  clear hw1
  have b1 := B0.out.cell (i := 1) rfl
  have b2 := B0.out.cell (i := 2) rfl
  have hi64k : IntKind.i64.wrap (k : Int) = (k : Int) := IntWalk.i64_in _ (by omega)
  have hi64i : IntKind.i64.wrap (i : Int) = (i : Int) := IntWalk.i64_in _ (by omega)
  go_quiet (fail)
  clear b1 b2 htk hti hi64k hi64i
  have hbd : Below w1.heap.size w1 (w1.drewN nq) := ⟨rfl, rfl, rfl, Nat.le_refl _, fun _ _ => rfl⟩
  have HG1 : Hid (Kept (fun k => k = X) w (w1.drewN nq)) := Kept.of_below (HB0.out.trans (hbd.mono HB0.out.size)) _
  have B1 := Lib.hid (B0.out.later hbd)
  have R1 := Lib.hid (R0.out.later hbd)
  have X1 := Lib.hid (X0.out.later hbd)
  clear hbd HB0 B0 R0 X0
  generalize w1.drewN nq = w2 at *
  have hm := HM.out
  have hmi : (kd : Int) % 11 = 1 := by omega
  have HP0 : Hid (mdo m ⟨kd, who, tw, fd, n, ⟨okd, omak, obn, onum, ooff, ord, owr, oap⟩⟩ = mCopy m k i) := by
    show _ = _
    rw [mD1 (o := ⟨kd, who, tw, fd, n, ⟨okd, omak, obn, onum, ooff, ord, owr, oap⟩⟩) hm]
    dsimp only
    rw [HK.out.1, HI.out.1]
  clear HM hm
  have b0 := B1.out.cell (i := 0) rfl
  have b4 := B1.out.cell (i := 4) rfl
  by_cases h3 : k = 3
  · subst h3
    have HP : Hid (mdo m ⟨kd, who, tw, fd, n, ⟨okd, omak, obn, onum, ooff, ord, owr, oap⟩⟩ = (m, errD 12, false)) := HP0.out.trans (if_pos (.inl rfl))
    clear HP0
    have hst := R1.out.store (r' := (errD 12)) rfl
    have hsz : (resC (errD 12)).toArray.size = 138 := by rw [List.size_toArray, resC_len rfl]
    have hg : w2.grownBy (w2.setRow (w.heap.size + 1) (resC (errD 12)).toArray) (some (w.heap.size + 1)) := grown_setRow _ _ _
    have HF : Hid (ResAt (w2.setRow (w.heap.size + 1) (resC (errD 12)).toArray) (w.heap.size + 1) (errD 12)) := R1.out.setRow rfl
    have XF : Hid (ModAt (w2.setRow (w.heap.size + 1) (resC (errD 12)).toArray) X m) := X1.out.kept (hg.block _ X1.out.1.lt (by have := Hxl.out; simp; omega))
    have GF : Hid (Kept (fun k => k = X) w (w2.setRow (w.heap.size + 1) (resC (errD 12)).toArray)) := HG1.out.trans (Kept.of_grown hg (fun k => k = (w.heap.size + 1)) (fun k hk => (Option.some.inj hk).symm)) (fun i hi e => by omega)
    clear hg
    go_wp2
    refine bodyPost_ret (v := .tuple #[resDV (errD 12), .bool false]) (results_res2 rfl _ _ (w.heap.size + 1) (by rfl) (by rfl) HF.out) rfl ?_
    unfold DoPost
    rw [HP.out]
    exact ⟨rfl, XF.out, GF.out⟩
  · have h3' : ((k : Int) == 3) = false := beq_eq_false_iff_ne.2 (by omega)
    by_cases h4 : i = 3
    · subst h4
      have HP : Hid (mdo m ⟨kd, who, tw, fd, n, ⟨okd, omak, obn, onum, ooff, ord, owr, oap⟩⟩ = (m, errD 12, false)) := HP0.out.trans (if_pos (.inr rfl))
      clear HP0
      clear h3
      have hst := R1.out.store (r' := (errD 12)) rfl
      have hsz : (resC (errD 12)).toArray.size = 138 := by rw [List.size_toArray, resC_len rfl]
      have hg : w2.grownBy (w2.setRow (w.heap.size + 1) (resC (errD 12)).toArray) (some (w.heap.size + 1)) := grown_setRow _ _ _
      have HF : Hid (ResAt (w2.setRow (w.heap.size + 1) (resC (errD 12)).toArray) (w.heap.size + 1) (errD 12)) := R1.out.setRow rfl
      have XF : Hid (ModAt (w2.setRow (w.heap.size + 1) (resC (errD 12)).toArray) X m) := X1.out.kept (hg.block _ X1.out.1.lt (by have := Hxl.out; simp; omega))
      have GF : Hid (Kept (fun k => k = X) w (w2.setRow (w.heap.size + 1) (resC (errD 12)).toArray)) := HG1.out.trans (Kept.of_grown hg (fun k => k = (w.heap.size + 1)) (fun k hk => (Option.some.inj hk).symm)) (fun i hi e => by omega)
      clear hg
      go_wp2
      refine bodyPost_ret (v := .tuple #[resDV (errD 12), .bool false]) (results_res2 rfl _ _ (w.heap.size + 1) (by rfl) (by rfl) HF.out) rfl ?_
      unfold DoPost
      rw [HP.out]
      exact ⟨rfl, XF.out, GF.out⟩
    · have h4' : ((i : Int) == 3) = false := beq_eq_false_iff_ne.2 (by omega)
      have HP1 := Lib.hid (HP0.out.trans (if_neg (show ¬ (k = 3 ∨ i = 3) by omega)))
      clear HP0 h3 h4
      have HP0 := HP1
      clear HP1
      obtain ⟨q, hq⟩ : ∃ q, mAll m k = q := ⟨_, rfl⟩
      have hc := mAll_any X1.out HK.out.2
      rw [hq] at hc HP0
      have HC := Lib.hid hc
      have Hq := Lib.hid hq
      clear hc hq
      go_wp2_with fail
      refine HC.out.mono ?_
      rintro r w9 ⟨rfl, rfl⟩
      clear HC
      by_cases h0 : q = 0
      · subst h0
        have HP1 := Lib.hid (HP0.out.trans (if_neg (by simp)))
        clear HP0
        have c := X1.out.there HI.out.2
        cases hb : mThere m i with
        | true =>
          rw [hb] at c
          have HP : Hid (mdo m ⟨kd, who, tw, fd, n, ⟨okd, omak, obn, onum, ooff, ord, owr, oap⟩⟩ = (m, errD 13, false)) := HP1.out.trans (if_pos hb)
          clear HP1 hb
          have hst := R1.out.store (r' := (errD 13)) rfl
          have hsz : (resC (errD 13)).toArray.size = 138 := by rw [List.size_toArray, resC_len rfl]
          have hg : w2.grownBy (w2.setRow (w.heap.size + 1) (resC (errD 13)).toArray) (some (w.heap.size + 1)) := grown_setRow _ _ _
          have HF : Hid (ResAt (w2.setRow (w.heap.size + 1) (resC (errD 13)).toArray) (w.heap.size + 1) (errD 13)) := R1.out.setRow rfl
          have XF : Hid (ModAt (w2.setRow (w.heap.size + 1) (resC (errD 13)).toArray) X m) := X1.out.kept (hg.block _ X1.out.1.lt (by have := Hxl.out; simp; omega))
          have GF : Hid (Kept (fun k => k = X) w (w2.setRow (w.heap.size + 1) (resC (errD 13)).toArray)) := HG1.out.trans (Kept.of_grown hg (fun k => k = (w.heap.size + 1)) (fun k hk => (Option.some.inj hk).symm)) (fun i hi e => by omega)
          clear hg
          go_wp2
          refine bodyPost_ret (v := .tuple #[resDV (errD 13), .bool false]) (results_res2 rfl _ _ (w.heap.size + 1) (by rfl) (by rfl) HF.out) rfl ?_
          unfold DoPost
          rw [HP.out]
          exact ⟨rfl, XF.out, GF.out⟩
        | false =>
          rw [hb] at c
          have HP : Hid (mdo m ⟨kd, who, tw, fd, n, ⟨okd, omak, obn, onum, ooff, ord, owr, oap⟩⟩ = (⟨m.tabs.set i (mTab m k), m.there.set i true⟩, errD 0, true)) := HP1.out.trans (if_neg (by rw [hb]; decide))
          clear HP1 hb
          go_upto_region 19 with fail
          clear c b0 b4 h3' h4'
          have X2t := Lib.hid (X1.out.2.tl k)
          have hbd : Below w2.heap.size w2 w2.drew := (Below.refl _ _).drew
          have B2 := Lib.hid (B1.out.later hbd)
          have R2 := Lib.hid (R1.out.later hbd)
          have X2 := Lib.hid (X1.out.later hbd)
          have HG2 : Hid (Kept (fun k => k = X) w w2.drew) := HG1.out.trans (Kept.of_below hbd (fun _ => False)) (fun _ _ h => h.elim)
          clear hbd B1 R1 X1 HG1
          refine wp_region_held_drew (S := (fun W => ∃ m1, ModAt W X m1 ∧ mTab m1 k = mTab m k)) (by kernel_rfl) (⟨m, X2.out, rfl⟩) (fun hHeld0 => ?_)
          obtain ⟨wv, hwn⟩ : ∃ x, w2.drew = x := ⟨_, rfl⟩
          rw [hwn] at B2 R2 X2 HG2 hHeld0 ⊢
          clear hwn
          refine wpAnyH_take (i := 0) (v := ?_) rfl (by kernel_rfl) (by kernel_rfl) (by kernel_rfl) (fun _ _ _ h => h) (Or.inl ⟨by rfl, ?_⟩) (by assumption) ?_
          rotate_left
          · (intro wx hSw; (try dsimp only at hSw); go_simp <;> with_reducible rfl)
          try simp only [Act.put, List.setIfInBounds_toArray, List.set_cons_zero, List.set_cons_succ, List.getElem_toArray, List.getElem_cons_zero, List.getElem_cons_succ]
          refine wpAnyH_take (i := 1) (v := ?_) rfl (by kernel_rfl) (by kernel_rfl) (by kernel_rfl) (fun _ _ _ h => h) (Or.inl ⟨by rfl, ?_⟩) (by assumption) ?_
          rotate_left
          · (intro wx hSw; (try dsimp only at hSw); go_simp <;> with_reducible rfl)
          try simp only [Act.put, List.setIfInBounds_toArray, List.set_cons_zero, List.set_cons_succ, List.getElem_toArray, List.getElem_cons_zero, List.getElem_cons_succ]
          refine wpAnyH_take (i := 2) (v := ?_) rfl (by kernel_rfl) (by kernel_rfl) (by kernel_rfl) (fun _ _ _ h => h) (Or.inl ⟨by rfl, ?_⟩) (by assumption) ?_
          rotate_left
          · (intro wx hSw; (try dsimp only at hSw); go_simp <;> with_reducible rfl)
          try simp only [Act.put, List.setIfInBounds_toArray, List.set_cons_zero, List.set_cons_succ, List.getElem_toArray, List.getElem_cons_zero, List.getElem_cons_succ]
          refine wpAnyH_take (i := 3) (v := ?_) rfl (by kernel_rfl) (by kernel_rfl) (by kernel_rfl) (fun _ _ _ h => h) (Or.inl ⟨by rfl, ?_⟩) (by assumption) ?_
          rotate_left
          · (intro wx hSw; (try dsimp only at hSw); go_simp <;> with_reducible rfl)
          try simp only [Act.put, List.setIfInBounds_toArray, List.set_cons_zero, List.set_cons_succ, List.getElem_toArray, List.getElem_cons_zero, List.getElem_cons_succ]
          refine wpAnyH_take (i := 4) (v := ?_) rfl (by kernel_rfl) (by kernel_rfl) (by kernel_rfl) (fun _ _ _ h => h) (Or.inl ⟨by rfl, ?_⟩) (by assumption) ?_
          rotate_left
          · (intro wx hSw; (try dsimp only at hSw); go_simp <;> with_reducible rfl)
          try simp only [Act.put, List.setIfInBounds_toArray, List.set_cons_zero, List.set_cons_succ, List.getElem_toArray, List.getElem_cons_zero, List.getElem_cons_succ]
          refine wpAnyH_take (i := 5) (v := ?_) rfl (by kernel_rfl) (by kernel_rfl) (by kernel_rfl) (fun _ _ _ h => h) (Or.inl ⟨by rfl, ?_⟩) (by assumption) ?_
          rotate_left
          · (intro wx hSw; (try dsimp only at hSw); go_simp <;> with_reducible rfl)
          try simp only [Act.put, List.setIfInBounds_toArray, List.set_cons_zero, List.set_cons_succ, List.getElem_toArray, List.getElem_cons_zero, List.getElem_cons_succ]
          refine wpAnyH_take (i := 6) (v := ?_) rfl (by kernel_rfl) (by kernel_rfl) (by kernel_rfl) (fun _ _ _ h => h) (Or.inl ⟨by rfl, ?_⟩) (by assumption) ?_
          rotate_left
          · (intro wx hSw; (try dsimp only at hSw); go_simp <;> with_reducible rfl)
          try simp only [Act.put, List.setIfInBounds_toArray, List.set_cons_zero, List.set_cons_succ, List.getElem_toArray, List.getElem_cons_zero, List.getElem_cons_succ]
          refine wpAnyH_take (i := 7) (v := ?_) rfl (by kernel_rfl) (by kernel_rfl) (by kernel_rfl) (fun _ _ _ h => h) (Or.inl ⟨by rfl, ?_⟩) (by assumption) ?_
          rotate_left
          · (intro wx hSw; (try dsimp only at hSw); go_simp <;> with_reducible rfl)
          try simp only [Act.put, List.setIfInBounds_toArray, List.set_cons_zero, List.set_cons_succ, List.getElem_toArray, List.getElem_cons_zero, List.getElem_cons_succ]
          refine wpAnyH_take (i := 8) (v := ?_) rfl (by kernel_rfl) (by kernel_rfl) (by kernel_rfl) (fun _ _ _ h => h) (Or.inl ⟨by rfl, ?_⟩) (by assumption) ?_
          rotate_left
          · (intro wx hSw; (try dsimp only at hSw); go_simp <;> with_reducible rfl)
          try simp only [Act.put, List.setIfInBounds_toArray, List.set_cons_zero, List.set_cons_succ, List.getElem_toArray, List.getElem_cons_zero, List.getElem_cons_succ]
          refine wpAnyH_take (i := 9) (v := .agg (tabA (mTab m k))) rfl (by kernel_rfl) (by kernel_rfl) (by kernel_rfl) (fun _ _ _ h => h) (Or.inl ⟨by rfl, ?_⟩) (by assumption) ?_
          · (intro wx hSw; (try dsimp only at hSw); obtain ⟨m1, hM, hT⟩ := hSw; rw [← hT]; exact exec_load_mtab (by rfl) (by rfl) hM HK.out.2)
          try simp only [Act.put, List.setIfInBounds_toArray, List.set_cons_zero, List.set_cons_succ, List.getElem_toArray, List.getElem_cons_zero, List.getElem_cons_succ]
          refine wpAnyH_take (i := 10) (v := ?_) rfl (by kernel_rfl) (by kernel_rfl) (by kernel_rfl) (fun _ _ _ h => h) (Or.inl ⟨by rfl, ?_⟩) (by assumption) ?_
          rotate_left
          · (intro wx hSw; (try dsimp only at hSw); go_simp <;> with_reducible rfl)
          try simp only [Act.put, List.setIfInBounds_toArray, List.set_cons_zero, List.set_cons_succ, List.getElem_toArray, List.getElem_cons_zero, List.getElem_cons_succ]
          refine wpAnyH_take (i := 11) (v := ?_) rfl (by kernel_rfl) (by kernel_rfl) (by kernel_rfl) (fun _ _ _ h => h) (Or.inl ⟨by rfl, ?_⟩) (by assumption) ?_
          rotate_left
          · (intro wx hSw; (try dsimp only at hSw); go_simp <;> with_reducible rfl)
          try simp only [Act.put, List.setIfInBounds_toArray, List.set_cons_zero, List.set_cons_succ, List.getElem_toArray, List.getElem_cons_zero, List.getElem_cons_succ]
          refine wpAnyH_take (i := 12) (v := ?_) rfl (by kernel_rfl) (by kernel_rfl) (by kernel_rfl) (fun _ _ _ h => h) (Or.inl ⟨by rfl, ?_⟩) (by assumption) ?_
          rotate_left
          · (intro wx hSw; (try dsimp only at hSw); go_simp <;> with_reducible rfl)
          try simp only [Act.put, List.setIfInBounds_toArray, List.set_cons_zero, List.set_cons_succ, List.getElem_toArray, List.getElem_cons_zero, List.getElem_cons_succ]
          refine wpAnyH_take (i := 14) (v := ?_) rfl (by kernel_rfl) (by kernel_rfl) (by kernel_rfl) (fun _ _ _ h => h) (Or.inl ⟨by rfl, ?_⟩) (by assumption) ?_
          rotate_left
          · (intro wx hSw; (try dsimp only at hSw); go_simp <;> with_reducible rfl)
          try simp only [Act.put, List.setIfInBounds_toArray, List.set_cons_zero, List.set_cons_succ, List.getElem_toArray, List.getElem_cons_zero, List.getElem_cons_succ]
          refine wpAnyH_take (i := 15) (v := ?_) rfl (by kernel_rfl) (by kernel_rfl) (by kernel_rfl) (fun _ _ _ h => h) (Or.inl ⟨by rfl, ?_⟩) (by assumption) ?_
          rotate_left
          · (intro wx hSw; (try dsimp only at hSw); go_simp <;> with_reducible rfl)
          try simp only [Act.put, List.setIfInBounds_toArray, List.set_cons_zero, List.set_cons_succ, List.getElem_toArray, List.getElem_cons_zero, List.getElem_cons_succ]
          refine wpAnyH_ready (rs := [13]) (by kernel_rfl) (by simp) ?_
          refine AllReadyH.cons rfl (fun K hK => ?_) AllReadyH.nil
          have c := X2.out.there HI.out.2
          have cf := X2.out.free (512 + i)
          have hg : wv.grownBy (wv.setCell ⟨X, 512 + i, none⟩ (.bool true)) (some X) := grown_setCell _ _ _ _
          have B3 := Lib.hid (B2.out.kept (hg.block _ B2.out.lt (by have := Hxl.out; simp; omega)))
          have R3 := Lib.hid (R2.out.kept (hg.block _ R2.out.1.lt (by have := Hxl.out; simp; omega)))
          have X3 : Hid (ModAt (wv.setCell ⟨X, 512 + i, none⟩ (.bool true)) X ⟨m.tabs, m.there.set i true⟩) := X2.out.setThere i true
          have HG3 : Hid (Kept (fun k => k = X) w (wv.setCell ⟨X, 512 + i, none⟩ (.bool true))) := HG2.out.trans (Kept.of_grown hg (fun k => k = X) (fun k hk => (Option.some.inj hk).symm)) (fun _ _ h => h)
          clear hg
          go_simp
          refine hK.out _ _ (⟨_, X3.out, rfl⟩) (fun hHeld1 => ?_)
          clear hK K hHeld0
          try simp only [Act.put, List.setIfInBounds_toArray, List.set_cons_zero, List.set_cons_succ, List.getElem_toArray, List.getElem_cons_zero, List.getElem_cons_succ]
          refine wpAnyH_take (i := 16) (v := ?_) rfl (by kernel_rfl) (by kernel_rfl) (by kernel_rfl) (fun _ _ _ h => h) (Or.inl ⟨by rfl, ?_⟩) (by assumption) ?_
          rotate_left
          · (intro wx hSw; (try dsimp only at hSw); go_simp <;> with_reducible rfl)
          try simp only [Act.put, List.setIfInBounds_toArray, List.set_cons_zero, List.set_cons_succ, List.getElem_toArray, List.getElem_cons_zero, List.getElem_cons_succ]
          refine wpAnyH_ready (rs := [17]) (by kernel_rfl) (by simp) ?_
          refine AllReadyH.cons rfl (fun K hK => ?_) AllReadyH.nil
          clear c cf
          obtain ⟨wx, hwn⟩ : ∃ x, (wv.setCell ⟨X, 512 + i, none⟩ (.bool true)) = x := ⟨_, rfl⟩
          rw [hwn] at B3 R3 X3 HG3 ⊢
          clear hwn
          have hst := (X3.out.storeTab HI.out.2 (t := mTab m k) (X2t.out)).1
          have hsz := tabA_128 X2t.out
          have hg : wx.grownBy (wx.setRow X (modC ⟨m.tabs.set i (mTab m k), m.there.set i true⟩).toArray) (some X) := grown_setRow _ _ _
          have B4 := Lib.hid (B3.out.kept (hg.block _ B3.out.lt (by have := Hxl.out; simp; omega)))
          have R4 := Lib.hid (R3.out.kept (hg.block _ R3.out.1.lt (by have := Hxl.out; simp; omega)))
          have X4 : Hid (ModAt (wx.setRow X (modC ⟨m.tabs.set i (mTab m k), m.there.set i true⟩).toArray) X ⟨m.tabs.set i (mTab m k), m.there.set i true⟩) := (X3.out.storeTab HI.out.2 (t := mTab m k) (X2t.out)).2
          have HG4 : Hid (Kept (fun k => k = X) w (wx.setRow X (modC ⟨m.tabs.set i (mTab m k), m.there.set i true⟩).toArray)) := HG3.out.trans (Kept.of_grown hg (fun k => k = X) (fun k hk => (Option.some.inj hk).symm)) (fun _ _ h => h)
          clear hg
          go_simp
          refine hK.out _ _ (⟨_, X4.out, mtab_copy _ _ _ _⟩) (fun hHeld2 => ?_)
          clear hK K hHeld1
          try simp only [Act.put, List.setIfInBounds_toArray, List.set_cons_zero, List.set_cons_succ, List.getElem_toArray, List.getElem_cons_zero, List.getElem_cons_succ]
          refine wpAnyH_done (by kernel_rfl) ?_ _
          clear hst hsz
          obtain ⟨wy, hwn⟩ : ∃ x, (wx.setRow X (modC ⟨m.tabs.set i (mTab m k), m.there.set i true⟩).toArray) = x := ⟨_, rfl⟩
          rw [hwn] at B4 R4 X4 HG4 ⊢
          clear hwn
          have hst : (storeCells ⟨w.heap.size + 1, 0, none⟩ Tryz.zeroCells52.toList).run Tryz.prog wy = .ok () (wy.setRow (w.heap.size + 1) (resC (errD 0)).toArray) := by
            rw [zero_res]
            exact R4.out.store rfl
          have hsz : (resC (errD 0)).toArray.size = 138 := by rw [List.size_toArray, resC_len rfl]
          have hg : wy.grownBy (wy.setRow (w.heap.size + 1) (resC (errD 0)).toArray) (some (w.heap.size + 1)) := grown_setRow _ _ _
          have HF : Hid (ResAt (wy.setRow (w.heap.size + 1) (resC (errD 0)).toArray) (w.heap.size + 1) (errD 0)) := R4.out.setRow rfl
          have XF : Hid (ModAt (wy.setRow (w.heap.size + 1) (resC (errD 0)).toArray) X ⟨m.tabs.set i (mTab m k), m.there.set i true⟩) := X4.out.kept (hg.block _ X4.out.1.lt (by have := Hxl.out; simp; omega))
          have GF : Hid (Kept (fun k => k = X) w (wy.setRow (w.heap.size + 1) (resC (errD 0)).toArray)) := HG4.out.trans (Kept.of_grown hg (fun k => k = (w.heap.size + 1)) (fun k hk => (Option.some.inj hk).symm)) (fun i hi e => by omega)
          clear hg
          go_wp2
          refine bodyPost_ret (v := .tuple #[resDV (errD 0), .bool true]) (results_res2 rfl _ _ (w.heap.size + 1) (by rfl) (by rfl) HF.out) rfl ?_
          unfold DoPost
          rw [HP.out]
          exact ⟨rfl, XF.out, GF.out⟩
      · have hq' : ((q : Int) != 0) = true := bne_iff_ne.2 (by omega)
        have HP : Hid (mdo m ⟨kd, who, tw, fd, n, ⟨okd, omak, obn, onum, ooff, ord, owr, oap⟩⟩ = (m, errD q, false)) := HP0.out.trans (if_pos h0)
        clear HP0 h0
        have hst := R1.out.store (r' := (errD q)) rfl
        have hsz : (resC (errD q)).toArray.size = 138 := by rw [List.size_toArray, resC_len rfl]
        have hg : w2.grownBy (w2.setRow (w.heap.size + 1) (resC (errD q)).toArray) (some (w.heap.size + 1)) := grown_setRow _ _ _
        have HF : Hid (ResAt (w2.setRow (w.heap.size + 1) (resC (errD q)).toArray) (w.heap.size + 1) (errD q)) := R1.out.setRow rfl
        have XF : Hid (ModAt (w2.setRow (w.heap.size + 1) (resC (errD q)).toArray) X m) := X1.out.kept (hg.block _ X1.out.1.lt (by have := Hxl.out; simp; omega))
        have GF : Hid (Kept (fun k => k = X) w (w2.setRow (w.heap.size + 1) (resC (errD q)).toArray)) := HG1.out.trans (Kept.of_grown hg (fun k => k = (w.heap.size + 1)) (fun k hk => (Option.some.inj hk).symm)) (fun i hi e => by omega)
        clear hg
        go_wp2
        refine bodyPost_ret (v := .tuple #[resDV (errD q), .bool false]) (results_res2 rfl _ _ (w.heap.size + 1) (by rfl) (by rfl) HF.out) rfl ?_
        unfold DoPost
        rw [HP.out]
        exact ⟨rfl, XF.out, GF.out⟩
set_option linter.unusedSimpArgs false in
set_option maxRecDepth 100000 in
set_option maxHeartbeats 25600000 in
theorem mdo_2 (kd who tw : Nat) (fd n okd : Int) (omak : ByteArray) (obn onum ooff : Int) (ord owr oap : Bool) (X : Nat) (m : ModD) (w : World) (hX : ModAt w X m) (hk : kd < 256) (hw : who < 256) (ht : tw < 256) (hd : -9223372036854775808 ≤ n ∧ n ≤ 9223372036854775807) (hmk : omak.size ≤ 70368744177664) (hTE : ∀ t ∈ m.tabs, tabE t = 0) (hm : kd % 11 = 2) :
    Calls Tryz.prog 21 #[.pointer (some ⟨X, 0, none⟩), .agg #[.int .u8 kd, .int .u8 who, .int .u8 tw, .int .i64 fd, .int .i64 n, .int .i64 okd, .string omak, .int .i64 obn, .int .i64 onum, .int .i64 ooff, .bool ord, .bool owr, .bool oap]] w (DoPost w X (mdo m ⟨kd, who, tw, fd, n, ⟨okd, omak, obn, onum, ooff, ord, owr, oap⟩⟩)) := by
  have HX : Hid (∀ W, Below w.heap.size w W → ModAt W X m) := fun W h => hX.later h
  have Hxl : Hid (X < w.heap.size) := hX.1.lt
  have HB0 : Hid (Below w.heap.size w ((w.alloc (.cells #[.int .u8 kd, .int .u8 who, .int .u8 tw, .int .i64 fd, .int .i64 n, .int .i64 okd, .string omak, .int .i64 obn, .int .i64 onum, .int .i64 ooff, .bool ord, .bool owr, .bool oap] 49)).alloc (.cells Tryz.zeroCells52 52))) := ((Below.refl _ _).alloc (Nat.le_refl _) _).alloc (by simp) _
  have B0 : Hid (RowIs ((w.alloc (.cells #[.int .u8 kd, .int .u8 who, .int .u8 tw, .int .i64 fd, .int .i64 n, .int .i64 okd, .string omak, .int .i64 obn, .int .i64 onum, .int .i64 ooff, .bool ord, .bool owr, .bool oap] 49)).alloc (.cells Tryz.zeroCells52 52)) w.heap.size 49 [.int .u8 kd, .int .u8 who, .int .u8 tw, .int .i64 fd, .int .i64 n, .int .i64 okd, .string omak, .int .i64 obn, .int .i64 onum, .int .i64 ooff, .bool ord, .bool owr, .bool oap]) := (new_row w 49 [.int .u8 kd, .int .u8 who, .int .u8 tw, .int .i64 fd, .int .i64 n, .int .i64 okd, .string omak, .int .i64 obn, .int .i64 onum, .int .i64 ooff, .bool ord, .bool owr, .bool oap]).later ((Below.refl _ _).alloc (Nat.le_refl _) _)
  have R0 : Hid (ResAt ((w.alloc (.cells #[.int .u8 kd, .int .u8 who, .int .u8 tw, .int .i64 fd, .int .i64 n, .int .i64 okd, .string omak, .int .i64 obn, .int .i64 onum, .int .i64 ooff, .bool ord, .bool owr, .bool oap] 49)).alloc (.cells Tryz.zeroCells52 52)) (w.heap.size + 1) (errD 0)) := by
    have := new_res (w.alloc (.cells #[.int .u8 kd, .int .u8 who, .int .u8 tw, .int .i64 fd, .int .i64 n, .int .i64 okd, .string omak, .int .i64 obn, .int .i64 onum, .int .i64 ooff, .bool ord, .bool owr, .bool oap] 49))
    rw [World.size_alloc] at this
    exact this
  have X0 := Lib.hid (HX.out _ HB0.out)
  obtain ⟨k, hk4⟩ : ∃ k : Nat, who % 4 = k := ⟨_, rfl⟩
  obtain ⟨i, hi4⟩ : ∃ i : Nat, tw % 4 = i := ⟨_, rfl⟩
  have HK : Hid (who % 4 = k ∧ k < 4) := ⟨hk4, by omega⟩
  have HI : Hid (tw % 4 = i ∧ i < 4) := ⟨hi4, by omega⟩
  have htk : (who : Int).tmod 4 = (k : Int) := by rw [Int.tmod_eq_emod_of_nonneg (by omega)]; omega
  have hti : (tw : Int).tmod 4 = (i : Int) := by rw [Int.tmod_eq_emod_of_nonneg (by omega)]; omega
  have k0 : (0 : Int) ≤ (k : Int) := by omega
  have k1 : (k : Int) < 4 := by omega
  have i0 : (0 : Int) ≤ (i : Int) := by omega
  have i1 : (i : Int) < 4 := by omega
  have Hd := Lib.hid hd
  have Hmk := Lib.hid hmk
  have HTE := Lib.hid hTE
  have hkn : (0 : Int) ≤ (kd : Int) := by omega
  have hkx : (kd : Int) ≤ 255 := by omega
  have hwn : (0 : Int) ≤ (who : Int) := by omega
  have hwx : (who : Int) ≤ 255 := by omega
  have htn : (0 : Int) ≤ (tw : Int) := by omega
  have htx : (tw : Int) ≤ 255 := by omega
  have HM := Lib.hid hm
  clear hd hmk hTE hk4 hi4 hX hm
  go_enter Tryz.func21, Tryz.ntmps21
  go_upto_region 1 with fail
  obtain ⟨w1, hw1⟩ : ∃ w1, ((w.alloc (.cells #[.int .u8 kd, .int .u8 who, .int .u8 tw, .int .i64 fd, .int .i64 n, .int .i64 okd, .string omak, .int .i64 obn, .int .i64 onum, .int .i64 ooff, .bool ord, .bool owr, .bool oap] 49)).alloc (.cells Tryz.zeroCells52 52)) = w1 := ⟨_, rfl⟩
  rw [hw1] at HB0 B0 R0 X0 ⊢
  clear hw1
  have b1 := B0.out.cell (i := 1) rfl
  have b2 := B0.out.cell (i := 2) rfl
  have hi64k : IntKind.i64.wrap (k : Int) = (k : Int) := IntWalk.i64_in _ (by omega)
  have hi64i : IntKind.i64.wrap (i : Int) = (i : Int) := IntWalk.i64_in _ (by omega)
  go_quiet (fail)
  clear b1 b2 htk hti hi64k hi64i
  have hbd : Below w1.heap.size w1 (w1.drewN nq) := ⟨rfl, rfl, rfl, Nat.le_refl _, fun _ _ => rfl⟩
  have HG1 : Hid (Kept (fun k => k = X) w (w1.drewN nq)) := Kept.of_below (HB0.out.trans (hbd.mono HB0.out.size)) _
  have B1 := Lib.hid (B0.out.later hbd)
  have R1 := Lib.hid (R0.out.later hbd)
  have X1 := Lib.hid (X0.out.later hbd)
  clear hbd HB0 B0 R0 X0
  generalize w1.drewN nq = w2 at *
  have hm := HM.out
  have hmi : (kd : Int) % 11 = 2 := by omega
  have HP0 : Hid (mdo m ⟨kd, who, tw, fd, n, ⟨okd, omak, obn, onum, ooff, ord, owr, oap⟩⟩ = mOne m k dropF) := by
    show _ = _
    rw [mD2 (o := ⟨kd, who, tw, fd, n, ⟨okd, omak, obn, onum, ooff, ord, owr, oap⟩⟩) hm]
    dsimp only
    rw [HK.out.1]
  clear HM hm
  have HP1 : Hid (mdo m ⟨kd, who, tw, fd, n, ⟨okd, omak, obn, onum, ooff, ord, owr, oap⟩⟩ = if mAll m k ≠ 0 then (m, errD (mAll m k), false) else (mUpd m k (dropF (mTab m k)).2, (dropF (mTab m k)).1, (dropF (mTab m k)).2.isSome)) := HP0.out
  clear HP0
  have HP0 := HP1
  clear HP1
  have b0 := B1.out.cell (i := 0) rfl
  have b4 := B1.out.cell (i := 4) rfl
  obtain ⟨q, hq⟩ : ∃ q, mAll m k = q := ⟨_, rfl⟩
  have hc := mAll_any X1.out HK.out.2
  rw [hq] at hc HP0
  have HC := Lib.hid hc
  have Hq := Lib.hid hq
  clear hc hq
  go_wp2_with fail
  refine HC.out.mono ?_
  rintro r w9 ⟨rfl, rfl⟩
  clear HC
  by_cases h0 : q = 0
  · subst h0
    have HP : Hid (mdo m ⟨kd, who, tw, fd, n, ⟨okd, omak, obn, onum, ooff, ord, owr, oap⟩⟩ = (⟨m.tabs, m.there.set k false⟩, ⟨mTab m k, zeroO, 0, 0⟩, true)) := HP0.out.trans (if_neg (by simp))
    clear HP0
    have hl := X1.out.2.tl k
    have Hl := Lib.hid hl
    go_wp2
    refine wp_load_mtab _ (by rfl) X k (by rfl) X1.out HK.out.2 ?_
    have hst := R1.out.storeT hl
    have hsz := tabA_128 hl
    have hg : w2.grownBy (w2.setRow (w.heap.size + 1) (resC (setT (errD 0) (mTab m k))).toArray) (some (w.heap.size + 1)) := grown_setRow _ _ _
    have B2 := Lib.hid (B1.out.kept (hg.block _ B1.out.lt (by simp)))
    have X2 : Hid (ModAt (w2.setRow (w.heap.size + 1) (resC (setT (errD 0) (mTab m k))).toArray) X m) := X1.out.kept (hg.block _ X1.out.1.lt (by have := Hxl.out; simp; omega))
    have R2 : Hid (ResAt (w2.setRow (w.heap.size + 1) (resC (setT (errD 0) (mTab m k))).toArray) (w.heap.size + 1) (setT (errD 0) (mTab m k))) := R1.out.setRow hl
    have HG2 : Hid (Kept (fun k => k = X) w (w2.setRow (w.heap.size + 1) (resC (setT (errD 0) (mTab m k))).toArray)) := HG1.out.trans (Kept.of_grown hg (fun k => k = (w.heap.size + 1)) (fun k hk => (Option.some.inj hk).symm)) (fun i hi e => by omega)
    clear hg B1 R1 X1 HG1
    go_upto_region 26 with fail
    clear hst hsz hl
    obtain ⟨wx, hwn⟩ : ∃ x, (w2.setRow (w.heap.size + 1) (resC (setT (errD 0) (mTab m k))).toArray) = x := ⟨_, rfl⟩
    rw [hwn] at B2 R2 X2 HG2 ⊢
    clear hwn
    have c := X2.out.there HK.out.2
    have cf := X2.out.free (512 + k)
    have hg : wx.grownBy (wx.setCell ⟨X, 512 + k, none⟩ (.bool false)) (some X) := grown_setCell _ _ _ _
    have B3 := Lib.hid (B2.out.kept (hg.block _ B2.out.lt (by have := Hxl.out; simp; omega)))
    have R3 := Lib.hid (R2.out.kept (hg.block _ R2.out.1.lt (by have := Hxl.out; simp; omega)))
    have X3 : Hid (ModAt (wx.setCell ⟨X, 512 + k, none⟩ (.bool false)) X ⟨m.tabs, m.there.set k false⟩) := X2.out.setThere k false
    have HG3 : Hid (Kept (fun k => k = X) w (wx.setCell ⟨X, 512 + k, none⟩ (.bool false))) := HG2.out.trans (Kept.of_grown hg (fun k => k = X) (fun k hk => (Option.some.inj hk).symm)) (fun _ _ h => h)
    clear hg
    go_upto_region 27 with fail
    clear c cf b0 b4
    obtain ⟨wy, hwn⟩ : ∃ x, (wx.setCell ⟨X, 512 + k, none⟩ (.bool false)) = x := ⟨_, rfl⟩
    rw [hwn] at B3 R3 X3 HG3 ⊢
    clear hwn
    clear B2 R2 X2 HG2
    have hst := R3.out.store (r' := (setT (errD 0) (mTab m k))) Hl.out
    have hsz : (resC (setT (errD 0) (mTab m k))).toArray.size = 138 := by rw [List.size_toArray, resC_len Hl.out]
    have hg : wy.grownBy (wy.setRow (w.heap.size + 1) (resC (setT (errD 0) (mTab m k))).toArray) (some (w.heap.size + 1)) := grown_setRow _ _ _
    have HF : Hid (ResAt (wy.setRow (w.heap.size + 1) (resC (setT (errD 0) (mTab m k))).toArray) (w.heap.size + 1) (setT (errD 0) (mTab m k))) := R3.out.setRow Hl.out
    have XF : Hid (ModAt (wy.setRow (w.heap.size + 1) (resC (setT (errD 0) (mTab m k))).toArray) X ⟨m.tabs, m.there.set k false⟩) := X3.out.kept (hg.block _ X3.out.1.lt (by have := Hxl.out; simp; omega))
    have GF : Hid (Kept (fun k => k = X) w (wy.setRow (w.heap.size + 1) (resC (setT (errD 0) (mTab m k))).toArray)) := HG3.out.trans (Kept.of_grown hg (fun k => k = (w.heap.size + 1)) (fun k hk => (Option.some.inj hk).symm)) (fun i hi e => by omega)
    clear hg
    go_wp2
    refine wp_load_res _ (by rfl) (w.heap.size + 1) (by rfl) R3.out ?_
    unfold resDV
    go_wp2
    refine bodyPost_ret (v := .tuple #[resDV (setT (errD 0) (mTab m k)), .bool true]) (results_res2 rfl _ _ (w.heap.size + 1) (by rfl) (by rfl) HF.out) rfl ?_
    unfold DoPost
    rw [HP.out]
    exact ⟨rfl, XF.out, GF.out⟩
  · have hq' : ((q : Int) != 0) = true := bne_iff_ne.2 (by omega)
    have HP : Hid (mdo m ⟨kd, who, tw, fd, n, ⟨okd, omak, obn, onum, ooff, ord, owr, oap⟩⟩ = (m, errD q, false)) := HP0.out.trans (if_pos h0)
    clear HP0
    clear h0
    have hst := R1.out.store (r' := (errD q)) rfl
    have hsz : (resC (errD q)).toArray.size = 138 := by rw [List.size_toArray, resC_len rfl]
    have hg : w2.grownBy (w2.setRow (w.heap.size + 1) (resC (errD q)).toArray) (some (w.heap.size + 1)) := grown_setRow _ _ _
    have HF : Hid (ResAt (w2.setRow (w.heap.size + 1) (resC (errD q)).toArray) (w.heap.size + 1) (errD q)) := R1.out.setRow rfl
    have XF : Hid (ModAt (w2.setRow (w.heap.size + 1) (resC (errD q)).toArray) X m) := X1.out.kept (hg.block _ X1.out.1.lt (by have := Hxl.out; simp; omega))
    have GF : Hid (Kept (fun k => k = X) w (w2.setRow (w.heap.size + 1) (resC (errD q)).toArray)) := HG1.out.trans (Kept.of_grown hg (fun k => k = (w.heap.size + 1)) (fun k hk => (Option.some.inj hk).symm)) (fun i hi e => by omega)
    clear hg
    go_wp2
    refine bodyPost_ret (v := .tuple #[resDV (errD q), .bool false]) (results_res2 rfl _ _ (w.heap.size + 1) (by rfl) (by rfl) HF.out) rfl ?_
    unfold DoPost
    rw [HP.out]
    exact ⟨rfl, XF.out, GF.out⟩
set_option linter.unusedSimpArgs false in
set_option maxRecDepth 100000 in
set_option maxHeartbeats 25600000 in
theorem mdo_3 (kd who tw : Nat) (fd n okd : Int) (omak : ByteArray) (obn onum ooff : Int) (ord owr oap : Bool) (X : Nat) (m : ModD) (w : World) (hX : ModAt w X m) (hk : kd < 256) (hw : who < 256) (ht : tw < 256) (hd : -9223372036854775808 ≤ n ∧ n ≤ 9223372036854775807) (hmk : omak.size ≤ 70368744177664) (hTE : ∀ t ∈ m.tabs, tabE t = 0) (hm : kd % 11 = 3) :
    Calls Tryz.prog 21 #[.pointer (some ⟨X, 0, none⟩), .agg #[.int .u8 kd, .int .u8 who, .int .u8 tw, .int .i64 fd, .int .i64 n, .int .i64 okd, .string omak, .int .i64 obn, .int .i64 onum, .int .i64 ooff, .bool ord, .bool owr, .bool oap]] w (DoPost w X (mdo m ⟨kd, who, tw, fd, n, ⟨okd, omak, obn, onum, ooff, ord, owr, oap⟩⟩)) := by
  have HX : Hid (∀ W, Below w.heap.size w W → ModAt W X m) := fun W h => hX.later h
  have Hxl : Hid (X < w.heap.size) := hX.1.lt
  have HB0 : Hid (Below w.heap.size w ((w.alloc (.cells #[.int .u8 kd, .int .u8 who, .int .u8 tw, .int .i64 fd, .int .i64 n, .int .i64 okd, .string omak, .int .i64 obn, .int .i64 onum, .int .i64 ooff, .bool ord, .bool owr, .bool oap] 49)).alloc (.cells Tryz.zeroCells52 52))) := ((Below.refl _ _).alloc (Nat.le_refl _) _).alloc (by simp) _
  have B0 : Hid (RowIs ((w.alloc (.cells #[.int .u8 kd, .int .u8 who, .int .u8 tw, .int .i64 fd, .int .i64 n, .int .i64 okd, .string omak, .int .i64 obn, .int .i64 onum, .int .i64 ooff, .bool ord, .bool owr, .bool oap] 49)).alloc (.cells Tryz.zeroCells52 52)) w.heap.size 49 [.int .u8 kd, .int .u8 who, .int .u8 tw, .int .i64 fd, .int .i64 n, .int .i64 okd, .string omak, .int .i64 obn, .int .i64 onum, .int .i64 ooff, .bool ord, .bool owr, .bool oap]) := (new_row w 49 [.int .u8 kd, .int .u8 who, .int .u8 tw, .int .i64 fd, .int .i64 n, .int .i64 okd, .string omak, .int .i64 obn, .int .i64 onum, .int .i64 ooff, .bool ord, .bool owr, .bool oap]).later ((Below.refl _ _).alloc (Nat.le_refl _) _)
  have R0 : Hid (ResAt ((w.alloc (.cells #[.int .u8 kd, .int .u8 who, .int .u8 tw, .int .i64 fd, .int .i64 n, .int .i64 okd, .string omak, .int .i64 obn, .int .i64 onum, .int .i64 ooff, .bool ord, .bool owr, .bool oap] 49)).alloc (.cells Tryz.zeroCells52 52)) (w.heap.size + 1) (errD 0)) := by
    have := new_res (w.alloc (.cells #[.int .u8 kd, .int .u8 who, .int .u8 tw, .int .i64 fd, .int .i64 n, .int .i64 okd, .string omak, .int .i64 obn, .int .i64 onum, .int .i64 ooff, .bool ord, .bool owr, .bool oap] 49))
    rw [World.size_alloc] at this
    exact this
  have X0 := Lib.hid (HX.out _ HB0.out)
  obtain ⟨k, hk4⟩ : ∃ k : Nat, who % 4 = k := ⟨_, rfl⟩
  obtain ⟨i, hi4⟩ : ∃ i : Nat, tw % 4 = i := ⟨_, rfl⟩
  have HK : Hid (who % 4 = k ∧ k < 4) := ⟨hk4, by omega⟩
  have HI : Hid (tw % 4 = i ∧ i < 4) := ⟨hi4, by omega⟩
  have htk : (who : Int).tmod 4 = (k : Int) := by rw [Int.tmod_eq_emod_of_nonneg (by omega)]; omega
  have hti : (tw : Int).tmod 4 = (i : Int) := by rw [Int.tmod_eq_emod_of_nonneg (by omega)]; omega
  have k0 : (0 : Int) ≤ (k : Int) := by omega
  have k1 : (k : Int) < 4 := by omega
  have i0 : (0 : Int) ≤ (i : Int) := by omega
  have i1 : (i : Int) < 4 := by omega
  have Hd := Lib.hid hd
  have Hmk := Lib.hid hmk
  have HTE := Lib.hid hTE
  have hkn : (0 : Int) ≤ (kd : Int) := by omega
  have hkx : (kd : Int) ≤ 255 := by omega
  have hwn : (0 : Int) ≤ (who : Int) := by omega
  have hwx : (who : Int) ≤ 255 := by omega
  have htn : (0 : Int) ≤ (tw : Int) := by omega
  have htx : (tw : Int) ≤ 255 := by omega
  have HM := Lib.hid hm
  clear hd hmk hTE hk4 hi4 hX hm
  go_enter Tryz.func21, Tryz.ntmps21
  go_upto_region 1 with fail
  obtain ⟨w1, hw1⟩ : ∃ w1, ((w.alloc (.cells #[.int .u8 kd, .int .u8 who, .int .u8 tw, .int .i64 fd, .int .i64 n, .int .i64 okd, .string omak, .int .i64 obn, .int .i64 onum, .int .i64 ooff, .bool ord, .bool owr, .bool oap] 49)).alloc (.cells Tryz.zeroCells52 52)) = w1 := ⟨_, rfl⟩
  rw [hw1] at HB0 B0 R0 X0 ⊢
  clear hw1
  have b1 := B0.out.cell (i := 1) rfl
  have b2 := B0.out.cell (i := 2) rfl
  have hi64k : IntKind.i64.wrap (k : Int) = (k : Int) := IntWalk.i64_in _ (by omega)
  have hi64i : IntKind.i64.wrap (i : Int) = (i : Int) := IntWalk.i64_in _ (by omega)
  go_quiet (fail)
  clear b1 b2 htk hti hi64k hi64i
  have hbd : Below w1.heap.size w1 (w1.drewN nq) := ⟨rfl, rfl, rfl, Nat.le_refl _, fun _ _ => rfl⟩
  have HG1 : Hid (Kept (fun k => k = X) w (w1.drewN nq)) := Kept.of_below (HB0.out.trans (hbd.mono HB0.out.size)) _
  have B1 := Lib.hid (B0.out.later hbd)
  have R1 := Lib.hid (R0.out.later hbd)
  have X1 := Lib.hid (X0.out.later hbd)
  clear hbd HB0 B0 R0 X0
  generalize w1.drewN nq = w2 at *
  have hm := HM.out
  have hmi : (kd : Int) % 11 = 3 := by omega
  have HP0 : Hid (mdo m ⟨kd, who, tw, fd, n, ⟨okd, omak, obn, onum, ooff, ord, owr, oap⟩⟩ = mOne m k allF) := by
    show _ = _
    rw [mD3 (o := ⟨kd, who, tw, fd, n, ⟨okd, omak, obn, onum, ooff, ord, owr, oap⟩⟩) hm]
    dsimp only
    rw [HK.out.1]
  clear HM hm
  have HP1 : Hid (mdo m ⟨kd, who, tw, fd, n, ⟨okd, omak, obn, onum, ooff, ord, owr, oap⟩⟩ = if mAll m k ≠ 0 then (m, errD (mAll m k), false) else (mUpd m k (allF (mTab m k)).2, (allF (mTab m k)).1, (allF (mTab m k)).2.isSome)) := HP0.out
  clear HP0
  have HP0 := HP1
  clear HP1
  have b0 := B1.out.cell (i := 0) rfl
  have b4 := B1.out.cell (i := 4) rfl
  obtain ⟨q, hq⟩ : ∃ q, mAll m k = q := ⟨_, rfl⟩
  have hc := mAll_any X1.out HK.out.2
  rw [hq] at hc HP0
  have HC := Lib.hid hc
  have Hq := Lib.hid hq
  clear hc hq
  go_wp2_with fail
  refine HC.out.mono ?_
  rintro r w9 ⟨rfl, rfl⟩
  clear HC
  by_cases h0 : q = 0
  · subst h0
    have HP : Hid (mdo m ⟨kd, who, tw, fd, n, ⟨okd, omak, obn, onum, ooff, ord, owr, oap⟩⟩ = (m, ⟨mTab m k, zeroO, 0, 0⟩, false)) := HP0.out.trans (if_neg (by simp))
    clear HP0
    have hl := X1.out.2.tl k
    have Hl := Lib.hid hl
    go_wp2
    refine wp_load_mtab _ (by rfl) X k (by rfl) X1.out HK.out.2 ?_
    have hsz := tabA_128 hl
    have hst : (storeCells ⟨w.heap.size + 1, 0, none⟩ (Array.foldl (fun cs x => cs.setIfInBounds x.snd x.fst) Tryz.zeroCells52 (tabA (mTab m k)).zipIdx 0 128).toList).run Tryz.prog w2 = .ok () (w2.setRow (w.heap.size + 1) (resC ⟨mTab m k, zeroO, 0, 0⟩).toArray) := by
      rw [bld_T hl]
      exact R1.out.store (r' := ⟨mTab m k, zeroO, 0, 0⟩) hl
    have hsz2 : (Array.foldl (fun cs x => cs.setIfInBounds x.snd x.fst) Tryz.zeroCells52 (tabA (mTab m k)).zipIdx 0 128).size = 138 := by rw [bld_T hl, List.size_toArray, resC_len hl]
    have hg : w2.grownBy (w2.setRow (w.heap.size + 1) (resC ⟨mTab m k, zeroO, 0, 0⟩).toArray) (some (w.heap.size + 1)) := grown_setRow _ _ _
    have HF : Hid (ResAt (w2.setRow (w.heap.size + 1) (resC ⟨mTab m k, zeroO, 0, 0⟩).toArray) (w.heap.size + 1) ⟨mTab m k, zeroO, 0, 0⟩) := R1.out.setRow hl
    have XF : Hid (ModAt (w2.setRow (w.heap.size + 1) (resC ⟨mTab m k, zeroO, 0, 0⟩).toArray) X m) := X1.out.kept (hg.block _ X1.out.1.lt (by have := Hxl.out; simp; omega))
    have GF : Hid (Kept (fun k => k = X) w (w2.setRow (w.heap.size + 1) (resC ⟨mTab m k, zeroO, 0, 0⟩).toArray)) := HG1.out.trans (Kept.of_grown hg (fun k => k = (w.heap.size + 1)) (fun k hk => (Option.some.inj hk).symm)) (fun i hi e => by omega)
    clear hg
    go_wp2
    refine bodyPost_ret (v := .tuple #[resDV ⟨mTab m k, zeroO, 0, 0⟩, .bool false]) (results_res2 rfl _ _ (w.heap.size + 1) (by rfl) (by rfl) HF.out) rfl ?_
    unfold DoPost
    rw [HP.out]
    exact ⟨rfl, XF.out, GF.out⟩
  · have hq' : ((q : Int) != 0) = true := bne_iff_ne.2 (by omega)
    have HP : Hid (mdo m ⟨kd, who, tw, fd, n, ⟨okd, omak, obn, onum, ooff, ord, owr, oap⟩⟩ = (m, errD q, false)) := HP0.out.trans (if_pos h0)
    clear HP0
    clear h0
    have hst := R1.out.store (r' := (errD q)) rfl
    have hsz : (resC (errD q)).toArray.size = 138 := by rw [List.size_toArray, resC_len rfl]
    have hg : w2.grownBy (w2.setRow (w.heap.size + 1) (resC (errD q)).toArray) (some (w.heap.size + 1)) := grown_setRow _ _ _
    have HF : Hid (ResAt (w2.setRow (w.heap.size + 1) (resC (errD q)).toArray) (w.heap.size + 1) (errD q)) := R1.out.setRow rfl
    have XF : Hid (ModAt (w2.setRow (w.heap.size + 1) (resC (errD q)).toArray) X m) := X1.out.kept (hg.block _ X1.out.1.lt (by have := Hxl.out; simp; omega))
    have GF : Hid (Kept (fun k => k = X) w (w2.setRow (w.heap.size + 1) (resC (errD q)).toArray)) := HG1.out.trans (Kept.of_grown hg (fun k => k = (w.heap.size + 1)) (fun k hk => (Option.some.inj hk).symm)) (fun i hi e => by omega)
    clear hg
    go_wp2
    refine bodyPost_ret (v := .tuple #[resDV (errD q), .bool false]) (results_res2 rfl _ _ (w.heap.size + 1) (by rfl) (by rfl) HF.out) rfl ?_
    unfold DoPost
    rw [HP.out]
    exact ⟨rfl, XF.out, GF.out⟩
end Go.Proofs.YtfchfjipkggnkaaGreatDoor
