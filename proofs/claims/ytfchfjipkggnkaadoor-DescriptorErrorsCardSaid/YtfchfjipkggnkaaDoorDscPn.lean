/- Law 31: perform without a view. (printed by wip/gen_dscpn.py) -/
import Derived.Test.YtfchfjipkggnkaaDoorDscNm
import Derived.Test.YtfchfjipkggnkaaDoorDscNl
import Derived.Deep.DeepCutAuto
namespace Go.Proofs.YtfchfjipkggnkaaDoor
open Go.RowKit
attribute [local go_sem ↓] Go.wp_at_zero Go.wp_at_succ

set_option linter.unusedSimpArgs false in
set_option maxRecDepth 100000 in
set_option maxHeartbeats 12800000 in
theorem nPerform_in (kd who tw : Nat) (fd n okd : Int) (omak : ByteArray) (obn onum ooff : Int) (ord owr oap : Bool) (w : World) (hk : kd < 256) (hw : who < 256) (ht : tw < 256) :
    Calls Tryd.prog 25 #[.pointer none, .agg #[.int .u8 kd, .int .u8 who, .int .u8 tw, .int .i64 fd, .int .i64 n, .int .i64 okd, .string omak, .int .i64 obn, .int .i64 onum, .int .i64 ooff, .bool ord, .bool owr, .bool oap]] w fun r w' => r = .returned (resDV (errD 1)) ∧ Below w.heap.size w w' := by
  have HB0 : Hid (Below w.heap.size w (((w.alloc (.cells #[.int .u8 kd, .int .u8 who, .int .u8 tw, .int .i64 fd, .int .i64 n, .int .i64 okd, .string omak, .int .i64 obn, .int .i64 onum, .int .i64 ooff, .bool ord, .bool owr, .bool oap] 60)).alloc (.cells Tryd.zeroCells62 62)).alloc (.cells Tryd.zeroCells62 62))) := (((Below.refl _ _).alloc (Nat.le_refl _) _).alloc (by simp) _).alloc (by simp; omega) _
  have hb1 : Below (w.alloc (.cells #[.int .u8 kd, .int .u8 who, .int .u8 tw, .int .i64 fd, .int .i64 n, .int .i64 okd, .string omak, .int .i64 obn, .int .i64 onum, .int .i64 ooff, .bool ord, .bool owr, .bool oap] 60)).heap.size (w.alloc (.cells #[.int .u8 kd, .int .u8 who, .int .u8 tw, .int .i64 fd, .int .i64 n, .int .i64 okd, .string omak, .int .i64 obn, .int .i64 onum, .int .i64 ooff, .bool ord, .bool owr, .bool oap] 60)) ((w.alloc (.cells #[.int .u8 kd, .int .u8 who, .int .u8 tw, .int .i64 fd, .int .i64 n, .int .i64 okd, .string omak, .int .i64 obn, .int .i64 onum, .int .i64 ooff, .bool ord, .bool owr, .bool oap] 60)).alloc (.cells Tryd.zeroCells62 62)) := (Below.refl _ _).alloc (Nat.le_refl _) _
  have hb2 : Below ((w.alloc (.cells #[.int .u8 kd, .int .u8 who, .int .u8 tw, .int .i64 fd, .int .i64 n, .int .i64 okd, .string omak, .int .i64 obn, .int .i64 onum, .int .i64 ooff, .bool ord, .bool owr, .bool oap] 60)).alloc (.cells Tryd.zeroCells62 62)).heap.size ((w.alloc (.cells #[.int .u8 kd, .int .u8 who, .int .u8 tw, .int .i64 fd, .int .i64 n, .int .i64 okd, .string omak, .int .i64 obn, .int .i64 onum, .int .i64 ooff, .bool ord, .bool owr, .bool oap] 60)).alloc (.cells Tryd.zeroCells62 62)) (((w.alloc (.cells #[.int .u8 kd, .int .u8 who, .int .u8 tw, .int .i64 fd, .int .i64 n, .int .i64 okd, .string omak, .int .i64 obn, .int .i64 onum, .int .i64 ooff, .bool ord, .bool owr, .bool oap] 60)).alloc (.cells Tryd.zeroCells62 62)).alloc (.cells Tryd.zeroCells62 62)) := (Below.refl _ _).alloc (Nat.le_refl _) _
  have B0 : Hid (RowIs (((w.alloc (.cells #[.int .u8 kd, .int .u8 who, .int .u8 tw, .int .i64 fd, .int .i64 n, .int .i64 okd, .string omak, .int .i64 obn, .int .i64 onum, .int .i64 ooff, .bool ord, .bool owr, .bool oap] 60)).alloc (.cells Tryd.zeroCells62 62)).alloc (.cells Tryd.zeroCells62 62)) w.heap.size 60 [.int .u8 kd, .int .u8 who, .int .u8 tw, .int .i64 fd, .int .i64 n, .int .i64 okd, .string omak, .int .i64 obn, .int .i64 onum, .int .i64 ooff, .bool ord, .bool owr, .bool oap]) := ((new_row w 60 [.int .u8 kd, .int .u8 who, .int .u8 tw, .int .i64 fd, .int .i64 n, .int .i64 okd, .string omak, .int .i64 obn, .int .i64 onum, .int .i64 ooff, .bool ord, .bool owr, .bool oap]).later hb1).later hb2
  have RO0 : Hid (ResAt (((w.alloc (.cells #[.int .u8 kd, .int .u8 who, .int .u8 tw, .int .i64 fd, .int .i64 n, .int .i64 okd, .string omak, .int .i64 obn, .int .i64 onum, .int .i64 ooff, .bool ord, .bool owr, .bool oap] 60)).alloc (.cells Tryd.zeroCells62 62)).alloc (.cells Tryd.zeroCells62 62)) (w.heap.size + 1) (errD 0)) := by
    have := (new_res (w.alloc (.cells #[.int .u8 kd, .int .u8 who, .int .u8 tw, .int .i64 fd, .int .i64 n, .int .i64 okd, .string omak, .int .i64 obn, .int .i64 onum, .int .i64 ooff, .bool ord, .bool owr, .bool oap] 60))).later hb2
    rw [World.size_alloc] at this
    exact this
  have RS0 : Hid (ResAt (((w.alloc (.cells #[.int .u8 kd, .int .u8 who, .int .u8 tw, .int .i64 fd, .int .i64 n, .int .i64 okd, .string omak, .int .i64 obn, .int .i64 onum, .int .i64 ooff, .bool ord, .bool owr, .bool oap] 60)).alloc (.cells Tryd.zeroCells62 62)).alloc (.cells Tryd.zeroCells62 62)) (w.heap.size + 1 + 1) (errD 0)) := by
    have := new_res ((w.alloc (.cells #[.int .u8 kd, .int .u8 who, .int .u8 tw, .int .i64 fd, .int .i64 n, .int .i64 okd, .string omak, .int .i64 obn, .int .i64 onum, .int .i64 ooff, .bool ord, .bool owr, .bool oap] 60)).alloc (.cells Tryd.zeroCells62 62))
    rw [World.size_alloc, World.size_alloc] at this
    exact this
  clear hb1 hb2
  obtain ⟨j, hj, hj4⟩ : ∃ j : Nat, (who : Int) % 4 = (j : Int) ∧ j < 4 := ⟨who % 4, by omega, by omega⟩
  obtain ⟨i, hi, hi4⟩ : ∃ i : Nat, (tw : Int) % 4 = (i : Int) ∧ i < 4 := ⟨tw % 4, by omega, by omega⟩
  obtain ⟨nt, hnt⟩ : ∃ nt, nmD i = nt := ⟨_, rfl⟩
  obtain ⟨nm, hnm⟩ : ∃ nm, nmD j = nm := ⟨_, rfl⟩
  have HJ : Hid ((who : Int) % 4 = (j : Int) ∧ j < 4 ∧ nmD j = nm) := ⟨hj, hj4, hnm⟩
  have HI : Hid ((tw : Int) % 4 = (i : Int) ∧ i < 4 ∧ nmD i = nt) := ⟨hi, hi4, hnt⟩
  clear hj hj4 hi hi4 hnm hnt
  have hkn : (0 : Int) ≤ (kd : Int) := by omega
  have hkx : (kd : Int) ≤ 255 := by omega
  have hwn : (0 : Int) ≤ (who : Int) := by omega
  have hwx : (who : Int) ≤ 255 := by omega
  have htn : (0 : Int) ≤ (tw : Int) := by omega
  have htx : (tw : Int) ≤ 255 := by omega
  go_enter Tryd.func25, Tryd.ntmps25
  go_upto_region 2 with fail
  obtain ⟨w1, hw1⟩ : ∃ w1, (((w.alloc (.cells #[.int .u8 kd, .int .u8 who, .int .u8 tw, .int .i64 fd, .int .i64 n, .int .i64 okd, .string omak, .int .i64 obn, .int .i64 onum, .int .i64 ooff, .bool ord, .bool owr, .bool oap] 60)).alloc (.cells Tryd.zeroCells62 62)).alloc (.cells Tryd.zeroCells62 62)) = w1 := ⟨_, rfl⟩
  rw [hw1] at HB0 B0 RO0 RS0 ⊢
  clear hw1
  go_cut [6] (fun sv wx => sv = .string nm ∧ Hid (Below w1.heap.size w1 wx))
  case first =>
    obtain ⟨hj, hj4, hnm⟩ := HJ.out
    have Hnm := Lib.hid hnm
    clear hnm HI
    have j0 : (0 : Int) ≤ (j : Int) := by omega
    have j1 : (j : Int) < 4 := by omega
    have htm : (who : Int).tmod 4 = (j : Int) := by rw [Int.tmod_eq_emod_of_nonneg (by omega)]; exact hj
    have b1 := B0.out.cell (i := 1) rfl
    have HN : Hid (∀ W, Below w1.heap.size w1 W → W.cell? ⟨w.heap.size, 1, none⟩ = some (.int .u8 who)) := fun W h => (B0.out.later h).cell rfl
    refine wp_region_held_drew (S := (fun W => W.cell? ⟨w.heap.size, 1, none⟩ = some (.int .u8 who))) (by kernel_rfl) (HN.out _ (Below.refl _ _).drew) (fun hHeld0 => ?_)
    refine wpAnyH_take (i := 1) (v := ?_) rfl (by kernel_rfl) (by kernel_rfl) (by kernel_rfl) (fun _ _ _ h => h) (Or.inl ⟨by rfl, ?_⟩) (by assumption) ?_
    rotate_left
    · (intro wx hSw; (try dsimp only at hSw); go_simp <;> with_reducible rfl)
    try simp only [Act.put, List.setIfInBounds_toArray, List.set_cons_zero, List.set_cons_succ, List.getElem_toArray, List.getElem_cons_zero, List.getElem_cons_succ]
    refine wpAnyH_take (i := 2) (v := ?_) rfl (by kernel_rfl) (by kernel_rfl) (by kernel_rfl) (fun _ _ _ h => h) (Or.inl ⟨by rfl, ?_⟩) (by assumption) ?_
    rotate_left
    · (intro wx hSw; (try dsimp only at hSw); go_simp <;> with_reducible rfl)
    try simp only [Act.put, List.setIfInBounds_toArray, List.set_cons_zero, List.set_cons_succ, List.getElem_toArray, List.getElem_cons_zero, List.getElem_cons_succ]
    refine wpAnyH_take (i := 3) (v := ?_) rfl (by kernel_rfl) (by kernel_rfl) (by kernel_rfl) (fun _ _ _ h => h) (Or.inl ⟨by rfl, ?_⟩) (by assumption) ?_
    rotate_left
    · (intro wx hSw; (try dsimp only at hSw); go_simp <;> with_reducible rfl)
    try simp only [Act.put, List.setIfInBounds_toArray, List.set_cons_zero, List.set_cons_succ, List.getElem_toArray, List.getElem_cons_zero, List.getElem_cons_succ]
    refine wpAnyH_ready (rs := [0]) (by kernel_rfl) (by simp) ?_
    refine AllReadyH.cons rfl (fun K hK => ?_) AllReadyH.nil
    go_simp
    go_at_call 50
    (with_reducible refine (names31_any _).mono ?_)
    rintro r w2 ⟨rfl, hb, hn⟩
    have B2 : Hid (Below w1.heap.size w1 w2) := (Below.refl _ _).drew.trans hb
    have n1 : w2.cell? ⟨w1.heap.size, j, none⟩ = some (.string nm) := by
      have := hn.cell (nmCells_at hj4)
      rw [Hnm.out] at this
      exact this
    clear hn
    go_wp2_with fail
    refine hK.out _ _ (HN.out _ B2.out) (fun hHeld1 => ?_)
    clear hK K hHeld0
    try simp only [Act.put, List.setIfInBounds_toArray, List.set_cons_zero, List.set_cons_succ, List.getElem_toArray, List.getElem_cons_zero, List.getElem_cons_succ]
    refine wpAnyH_monoN (S2 := fun W => W.cell? ⟨w.heap.size, 1, none⟩ = some (.int .u8 who) ∧ W.cell? ⟨w1.heap.size, j, none⟩ = some (.string nm)) (fun _ h => h.1) _ _ _ _ ?_
    have hRow : (fun W : World => W.cell? ⟨w.heap.size, 1, none⟩ = some (.int .u8 who) ∧ W.cell? ⟨w1.heap.size, j, none⟩ = some (.string nm)) w2 := ⟨HN.out _ B2.out, n1⟩
    refine wpAnyH_take (i := 4) (v := ?_) rfl (by kernel_rfl) (by kernel_rfl) (by kernel_rfl) (fun _ _ _ h => h) (Or.inl ⟨by rfl, ?_⟩) (by assumption) ?_
    rotate_left
    · (intro wx hSw; (try dsimp only at hSw); go_simp <;> with_reducible rfl)
    try simp only [Act.put, List.setIfInBounds_toArray, List.set_cons_zero, List.set_cons_succ, List.getElem_toArray, List.getElem_cons_zero, List.getElem_cons_succ]
    refine wpAnyH_take (i := 5) (v := ?_) rfl (by kernel_rfl) (by kernel_rfl) (by kernel_rfl) (fun _ _ _ h => h) (Or.inl ⟨by rfl, ?_⟩) (by assumption) ?_
    rotate_left
    · (intro wx hSw; (try dsimp only at hSw); go_simp <;> with_reducible rfl)
    try simp only [Act.put, List.setIfInBounds_toArray, List.set_cons_zero, List.set_cons_succ, List.getElem_toArray, List.getElem_cons_zero, List.getElem_cons_succ]
    refine wpAnyH_take (i := 6) (v := ?_) rfl (by kernel_rfl) (by kernel_rfl) (by kernel_rfl) (fun _ _ _ h => h) (Or.inl ⟨by rfl, ?_⟩) (by assumption) ?_
    rotate_left
    · (intro wx hSw; (try dsimp only at hSw); go_simp <;> with_reducible rfl)
    try simp only [Act.put, List.setIfInBounds_toArray, List.set_cons_zero, List.set_cons_succ, List.getElem_toArray, List.getElem_cons_zero, List.getElem_cons_succ]
    refine wpAnyH_done (by kernel_rfl) ?_ _
    go_wp2
    go_meet
    exact ⟨rfl, B2.out⟩
  case rest =>
    obtain ⟨rfl, Hb⟩ := hcut
    have hb := Hb.out
    have Hww : Hid (w.heap.size + 1 + 1 < wc.heap.size) := Nat.lt_of_lt_of_le RS0.out.1.lt hb.size
    clear Hb HJ
    have HB1 := Lib.hid (HB0.out.trans (hb.mono HB0.out.size))
    have B1 := Lib.hid (B0.out.later hb)
    have RO1 := Lib.hid (RO0.out.later hb)
    have RS1 := Lib.hid (RS0.out.later hb)
    clear HB0 B0 RO0 RS0 hb
    have b0 := B1.out.cell (i := 0) rfl
    have b1 := B1.out.cell (i := 1) rfl
    have b2 := B1.out.cell (i := 2) rfl
    have b3 := B1.out.cell (i := 3) rfl
    have b4 := B1.out.cell (i := 4) rfl
    have b5 := B1.out.cell (i := 5) rfl
    have b6 := B1.out.cell (i := 6) rfl
    have b7 := B1.out.cell (i := 7) rfl
    have b8 := B1.out.cell (i := 8) rfl
    have b9 := B1.out.cell (i := 9) rfl
    have b10 := B1.out.cell (i := 10) rfl
    have b11 := B1.out.cell (i := 11) rfl
    have b12 := B1.out.cell (i := 12) rfl
    obtain ⟨m, hm, hm11⟩ : ∃ m : Nat, (kd : Int) % 11 = (m : Int) ∧ m < 11 := ⟨kd % 11, by omega, by omega⟩
    have hmm : m = 0 ∨ m = 1 ∨ m = 2 ∨ m = 3 ∨ m = 4 ∨ m = 5 ∨ m = 6 ∨ m = 7 ∨ m = 8 ∨ m = 9 ∨ m = 10 := by omega
    clear hm11
    rcases hmm with rfl | rfl | rfl | rfl | rfl | rfl | rfl | rfl | rfl | rfl | rfl
    · go_wp2_with fail
      (with_reducible refine (nMake nm _).mono ?_)
      rintro r w3 ⟨rfl, hb⟩
      clear b0 b1 b2 b3 b4 b5 b6 b7 b8 b9 b10 b11 b12
      have HB2 := Lib.hid (HB1.out.trans (hb.mono HB1.out.size))
      have B2 := Lib.hid (B1.out.later hb)
      have RO2 := Lib.hid (RO1.out.later hb)
      have RS2 := Lib.hid (RS1.out.later hb)
      clear HB1 B1 RO1 RS1 hb
      have s9 := RS2.out.1.cell (resC_at RS2.out.2 (j := 9) rfl)
      have u9 := RS2.out.free 137
      have hg : w3.grownBy (w3.setCell ⟨(w.heap.size + 1 + 1), 137, none⟩ (.int .i64 1)) (some (w.heap.size + 1 + 1)) := grown_setCell _ _ _ _
      have hr : ResAt (w3.setCell ⟨(w.heap.size + 1 + 1), 137, none⟩ (.int .i64 1)) (w.heap.size + 1 + 1) (errD 1) := RS2.out.setE 1
      have HB3 : Hid (Below w.heap.size w (w3.setCell ⟨(w.heap.size + 1 + 1), 137, none⟩ (.int .i64 1))) := HB2.out.grown hg HB2.out.size (fun k hk => by cases hk; omega)
      have RO3 : Hid (ResAt (w3.setCell ⟨(w.heap.size + 1 + 1), 137, none⟩ (.int .i64 1)) (w.heap.size + 1) (errD 0)) := RO2.out.kept (hg.block _ RO2.out.1.lt (by simp))
      have RS3 := Lib.hid hr
      clear hg hr HB2 RO2 RS2
      go_upto_region 25 with fail
      obtain ⟨wy, hwy⟩ : ∃ wy, (w3.setCell ⟨(w.heap.size + 1 + 1), 137, none⟩ (.int .i64 1)) = wy := ⟨_, rfl⟩
      rw [hwy] at HB3 RO3 RS3 ⊢
      clear hwy
      clear s9 u9
      go_wp2
      refine wp_load_res _ (by rfl) (w.heap.size + 1 + 1) (by rfl) RS3.out ?_
      have hst := RO3.out.store (r' := errD 1) rfl
      have hsz : (resC (errD 1)).toArray.size = 138 := by rw [List.size_toArray, resC_len rfl]
      have HF : Hid (ResAt (wy.setRow (w.heap.size + 1) (resC (errD 1)).toArray) (w.heap.size + 1) (errD 1)) := RO3.out.setRow rfl
      have HB9 : Hid (Below w.heap.size w (wy.setRow (w.heap.size + 1) (resC (errD 1)).toArray)) := HB3.out.grown (grown_setRow _ _ _) HB3.out.size (fun k hk => by cases hk; omega)
      unfold resDV
      go_wp2
      refine bodyPost_ret (v := resDV (errD 1)) (results_res rfl _ _ (w.heap.size + 1) (by rfl) HF.out) rfl ?_
      exact ⟨rfl, HB9.out⟩
    · obtain ⟨hi, hi4, hnt⟩ := HI.out
      have Hnt := Lib.hid hnt
      clear hnt
      have i0 : (0 : Int) ≤ (i : Int) := by omega
      have i1 : (i : Int) < 4 := by omega
      have htm : (tw : Int).tmod 4 = (i : Int) := by rw [Int.tmod_eq_emod_of_nonneg (by omega)]; exact hi
      have HN : Hid (∀ W, Below wc.heap.size wc W → W.cell? ⟨w.heap.size, 2, none⟩ = some (.int .u8 tw)) := fun W h => (B1.out.later h).cell rfl
      go_upto_region 8 with fail
      clear b0 b1 b2 b3 b4 b5 b6 b7 b8 b9 b10 b11 b12
      refine wp_region_held_drew (S := (fun W => W.cell? ⟨w.heap.size, 2, none⟩ = some (.int .u8 tw))) (by kernel_rfl) (HN.out _ (Below.refl _ _).drew) (fun hHeld0 => ?_)
      refine wpAnyH_take (i := 0) (v := ?_) rfl (by kernel_rfl) (by kernel_rfl) (by kernel_rfl) (fun _ _ _ h => h) (Or.inl ⟨by rfl, ?_⟩) (by assumption) ?_
      rotate_left
      · (intro wx hSw; (try dsimp only at hSw); go_simp <;> with_reducible rfl)
      try simp only [Act.put, List.setIfInBounds_toArray, List.set_cons_zero, List.set_cons_succ, List.getElem_toArray, List.getElem_cons_zero, List.getElem_cons_succ]
      refine wpAnyH_take (i := 1) (v := ?_) rfl (by kernel_rfl) (by kernel_rfl) (by kernel_rfl) (fun _ _ _ h => h) (Or.inl ⟨by rfl, ?_⟩) (by assumption) ?_
      rotate_left
      · (intro wx hSw; (try dsimp only at hSw); go_simp <;> with_reducible rfl)
      try simp only [Act.put, List.setIfInBounds_toArray, List.set_cons_zero, List.set_cons_succ, List.getElem_toArray, List.getElem_cons_zero, List.getElem_cons_succ]
      refine wpAnyH_take (i := 3) (v := ?_) rfl (by kernel_rfl) (by kernel_rfl) (by kernel_rfl) (fun _ _ _ h => h) (Or.inl ⟨by rfl, ?_⟩) (by assumption) ?_
      rotate_left
      · (intro wx hSw; (try dsimp only at hSw); go_simp <;> with_reducible rfl)
      try simp only [Act.put, List.setIfInBounds_toArray, List.set_cons_zero, List.set_cons_succ, List.getElem_toArray, List.getElem_cons_zero, List.getElem_cons_succ]
      refine wpAnyH_take (i := 4) (v := ?_) rfl (by kernel_rfl) (by kernel_rfl) (by kernel_rfl) (fun _ _ _ h => h) (Or.inl ⟨by rfl, ?_⟩) (by assumption) ?_
      rotate_left
      · (intro wx hSw; (try dsimp only at hSw); go_simp <;> with_reducible rfl)
      try simp only [Act.put, List.setIfInBounds_toArray, List.set_cons_zero, List.set_cons_succ, List.getElem_toArray, List.getElem_cons_zero, List.getElem_cons_succ]
      refine wpAnyH_take (i := 5) (v := ?_) rfl (by kernel_rfl) (by kernel_rfl) (by kernel_rfl) (fun _ _ _ h => h) (Or.inl ⟨by rfl, ?_⟩) (by assumption) ?_
      rotate_left
      · (intro wx hSw; (try dsimp only at hSw); go_simp <;> with_reducible rfl)
      try simp only [Act.put, List.setIfInBounds_toArray, List.set_cons_zero, List.set_cons_succ, List.getElem_toArray, List.getElem_cons_zero, List.getElem_cons_succ]
      refine wpAnyH_ready (rs := [2]) (by kernel_rfl) (by simp) ?_
      refine AllReadyH.cons rfl (fun K hK => ?_) AllReadyH.nil
      go_simp
      go_at_call 50
      (with_reducible refine (names31_any _).mono ?_)
      rintro r w4 ⟨rfl, hb4, hn⟩
      have B4w : Hid (Below wc.heap.size wc w4) := (Below.refl _ _).drew.trans hb4
      have n1 : w4.cell? ⟨wc.heap.size, i, none⟩ = some (.string nt) := by
        have := hn.cell (nmCells_at hi4)
        rw [Hnt.out] at this
        exact this
      have Hnb : Hid (wc.heap.size < w4.heap.size) := hn.lt
      have hbq := B4w.out
      clear hn hb4
      have HB2 := Lib.hid (HB1.out.trans (hbq.mono HB1.out.size))
      have B2 := Lib.hid (B1.out.later hbq)
      have RO2 := Lib.hid (RO1.out.later hbq)
      have RS2 := Lib.hid (RS1.out.later hbq)
      clear HB1 B1 RO1 RS1 hbq
      go_wp2_with fail
      refine hK.out _ _ (HN.out _ B4w.out) (fun hHeld1 => ?_)
      clear hK K hHeld0
      try simp only [Act.put, List.setIfInBounds_toArray, List.set_cons_zero, List.set_cons_succ, List.getElem_toArray, List.getElem_cons_zero, List.getElem_cons_succ]
      refine wpAnyH_monoN (S2 := (fun W => W.cell? ⟨w.heap.size, 2, none⟩ = some (.int .u8 tw) ∧ W.cell? ⟨wc.heap.size, i, none⟩ = some (.string nt))) (fun _ h => h.1) _ _ _ _ ?_
      have hRow : (fun W => W.cell? ⟨w.heap.size, 2, none⟩ = some (.int .u8 tw) ∧ W.cell? ⟨wc.heap.size, i, none⟩ = some (.string nt)) w4 := ⟨HN.out _ B4w.out, n1⟩
      refine wpAnyH_take (i := 6) (v := ?_) rfl (by kernel_rfl) (by kernel_rfl) (by kernel_rfl) (fun _ _ _ h => h) (Or.inl ⟨by rfl, ?_⟩) (by assumption) ?_
      rotate_left
      · (intro wx hSw; (try dsimp only at hSw); go_simp <;> with_reducible rfl)
      try simp only [Act.put, List.setIfInBounds_toArray, List.set_cons_zero, List.set_cons_succ, List.getElem_toArray, List.getElem_cons_zero, List.getElem_cons_succ]
      refine wpAnyH_take (i := 7) (v := ?_) rfl (by kernel_rfl) (by kernel_rfl) (by kernel_rfl) (fun _ _ _ h => h) (Or.inl ⟨by rfl, ?_⟩) (by assumption) ?_
      rotate_left
      · (intro wx hSw; (try dsimp only at hSw); go_simp <;> with_reducible rfl)
      try simp only [Act.put, List.setIfInBounds_toArray, List.set_cons_zero, List.set_cons_succ, List.getElem_toArray, List.getElem_cons_zero, List.getElem_cons_succ]
      refine wpAnyH_ready (rs := [8]) (by kernel_rfl) (by simp) ?_
      refine AllReadyH.cons rfl (fun K hK => ?_) AllReadyH.nil
      go_simp
      go_at_call 51
      (with_reducible refine (nCopy nm nt _).mono ?_)
      rintro r w3 ⟨rfl, hb⟩
      have hR3 : (fun W => W.cell? ⟨w.heap.size, 2, none⟩ = some (.int .u8 tw) ∧ W.cell? ⟨wc.heap.size, i, none⟩ = some (.string nt)) w3 := ⟨HN.out _ (B4w.out.trans (hb.mono B4w.out.size)), ((bcell hb).1 _ _ Hnb.out).trans n1⟩
      have Hn3 : Hid (wc.heap.size < w3.heap.size) := Nat.lt_of_lt_of_le Hnb.out hb.size
      have Hw : Hid (w.heap.size + 1 + 1 < wc.heap.size) := Hww.out
      have HB3 := Lib.hid (HB2.out.trans (hb.mono HB2.out.size))
      have B3 := Lib.hid (B2.out.later hb)
      have RO3 := Lib.hid (RO2.out.later hb)
      have RS3 := Lib.hid (RS2.out.later hb)
      clear HB2 B2 RO2 RS2 hb
      have s9 := RS3.out.1.cell (resC_at RS3.out.2 (j := 9) rfl)
      have u9 := RS3.out.free 137
      go_wp2_with fail
      refine hK.out _ _ (hR3) (fun hHeld2 => ?_)
      clear hK K hRow hHeld1
      try simp only [Act.put, List.setIfInBounds_toArray, List.set_cons_zero, List.set_cons_succ, List.getElem_toArray, List.getElem_cons_zero, List.getElem_cons_succ]
      refine wpAnyH_take (i := 9) (v := ?_) rfl (by kernel_rfl) (by kernel_rfl) (by kernel_rfl) (fun _ _ _ h => h) (Or.inl ⟨by rfl, ?_⟩) (by assumption) ?_
      rotate_left
      · (intro wx hSw; (try dsimp only at hSw); go_simp <;> with_reducible rfl)
      try simp only [Act.put, List.setIfInBounds_toArray, List.set_cons_zero, List.set_cons_succ, List.getElem_toArray, List.getElem_cons_zero, List.getElem_cons_succ]
      refine wpAnyH_ready (rs := [10]) (by kernel_rfl) (by simp) ?_
      refine AllReadyH.cons rfl (fun K hK => ?_) AllReadyH.nil
      have hg : w3.grownBy (w3.setCell ⟨(w.heap.size + 1 + 1), 137, none⟩ (.int .i64 1)) (some (w.heap.size + 1 + 1)) := grown_setCell _ _ _ _
      have hr : ResAt (w3.setCell ⟨(w.heap.size + 1 + 1), 137, none⟩ (.int .i64 1)) (w.heap.size + 1 + 1) (errD 1) := RS3.out.setE 1
      have HB4 : Hid (Below w.heap.size w (w3.setCell ⟨(w.heap.size + 1 + 1), 137, none⟩ (.int .i64 1))) := HB3.out.grown hg HB3.out.size (fun k hk => by cases hk; omega)
      have RO4 : Hid (ResAt (w3.setCell ⟨(w.heap.size + 1 + 1), 137, none⟩ (.int .i64 1)) (w.heap.size + 1) (errD 0)) := RO3.out.kept (hg.block _ RO3.out.1.lt (by simp))
      have RS4 := Lib.hid hr
      clear hg hr HB3 RO3 RS3
      go_simp
      refine hK.out _ _ ⟨(cell_far _ (by omega) _ _ _).trans hHeld2.1, (cell_far _ (by have := Hw.out; omega) _ _ _).trans hHeld2.2⟩ (fun hH9 => ?_)
      clear hK K hHeld2 hR3 s9 u9
      try simp only [Act.put, List.setIfInBounds_toArray, List.set_cons_zero, List.set_cons_succ, List.getElem_toArray, List.getElem_cons_zero, List.getElem_cons_succ]
      refine wpAnyH_done (by kernel_rfl) ?_ _
      go_upto_region 25 with fail
      obtain ⟨wy, hwy⟩ : ∃ wy, (w3.setCell ⟨(w.heap.size + 1 + 1), 137, none⟩ (.int .i64 1)) = wy := ⟨_, rfl⟩
      rw [hwy] at HB4 RO4 RS4 ⊢
      clear hwy
      go_wp2
      refine wp_load_res _ (by rfl) (w.heap.size + 1 + 1) (by rfl) RS4.out ?_
      have hst := RO4.out.store (r' := errD 1) rfl
      have hsz : (resC (errD 1)).toArray.size = 138 := by rw [List.size_toArray, resC_len rfl]
      have HF : Hid (ResAt (wy.setRow (w.heap.size + 1) (resC (errD 1)).toArray) (w.heap.size + 1) (errD 1)) := RO4.out.setRow rfl
      have HB9 : Hid (Below w.heap.size w (wy.setRow (w.heap.size + 1) (resC (errD 1)).toArray)) := HB4.out.grown (grown_setRow _ _ _) HB4.out.size (fun k hk => by cases hk; omega)
      unfold resDV
      go_wp2
      refine bodyPost_ret (v := resDV (errD 1)) (results_res rfl _ _ (w.heap.size + 1) (by rfl) HF.out) rfl ?_
      exact ⟨rfl, HB9.out⟩
    · go_wp2_with fail
      (with_reducible refine (nDrop nm _).mono ?_)
      rintro r w3 ⟨rfl, hb⟩
      clear b0 b1 b2 b3 b4 b5 b6 b7 b8 b9 b10 b11 b12
      have HB2 := Lib.hid (HB1.out.trans (hb.mono HB1.out.size))
      have B2 := Lib.hid (B1.out.later hb)
      have RO2 := Lib.hid (RO1.out.later hb)
      have RS2 := Lib.hid (RS1.out.later hb)
      clear HB1 B1 RO1 RS1 hb
      have RSm := Lib.hid (RS2.out.setRow (r' := setT (errD 0) zeroTab) rfl)
      have s9 := RSm.out.1.cell (resC_at RSm.out.2 (j := 9) rfl)
      have u9 := RSm.out.free 137
      have hst := RS2.out.storeT zeroTab_len
      have hz0 := tabA_128 zeroTab_len
      have hg : w3.grownBy ((w3.setRow (w.heap.size + 1 + 1) (resC (setT (errD 0) zeroTab)).toArray).setCell ⟨(w.heap.size + 1 + 1), 137, none⟩ (.int .i64 1)) (some (w.heap.size + 1 + 1)) := grown_trans (grown_setRow _ _ _) (grown_setCell _ _ _ _)
      have hr : ResAt ((w3.setRow (w.heap.size + 1 + 1) (resC (setT (errD 0) zeroTab)).toArray).setCell ⟨(w.heap.size + 1 + 1), 137, none⟩ (.int .i64 1)) (w.heap.size + 1 + 1) (errD 1) := (RS2.out.setRow (r' := setT (errD 0) zeroTab) rfl).setE 1
      have HB3 : Hid (Below w.heap.size w ((w3.setRow (w.heap.size + 1 + 1) (resC (setT (errD 0) zeroTab)).toArray).setCell ⟨(w.heap.size + 1 + 1), 137, none⟩ (.int .i64 1))) := HB2.out.grown hg HB2.out.size (fun k hk => by cases hk; omega)
      have RO3 : Hid (ResAt ((w3.setRow (w.heap.size + 1 + 1) (resC (setT (errD 0) zeroTab)).toArray).setCell ⟨(w.heap.size + 1 + 1), 137, none⟩ (.int .i64 1)) (w.heap.size + 1) (errD 0)) := RO2.out.kept (hg.block _ RO2.out.1.lt (by simp))
      have RS3 := Lib.hid hr
      clear hg hr HB2 RO2 RS2
      go_upto_region 25 with fail
      obtain ⟨wy, hwy⟩ : ∃ wy, ((w3.setRow (w.heap.size + 1 + 1) (resC (setT (errD 0) zeroTab)).toArray).setCell ⟨(w.heap.size + 1 + 1), 137, none⟩ (.int .i64 1)) = wy := ⟨_, rfl⟩
      rw [hwy] at HB3 RO3 RS3 ⊢
      clear hwy
      clear s9 u9
      clear hst hz0
      go_wp2
      refine wp_load_res _ (by rfl) (w.heap.size + 1 + 1) (by rfl) RS3.out ?_
      have hst := RO3.out.store (r' := errD 1) rfl
      have hsz : (resC (errD 1)).toArray.size = 138 := by rw [List.size_toArray, resC_len rfl]
      have HF : Hid (ResAt (wy.setRow (w.heap.size + 1) (resC (errD 1)).toArray) (w.heap.size + 1) (errD 1)) := RO3.out.setRow rfl
      have HB9 : Hid (Below w.heap.size w (wy.setRow (w.heap.size + 1) (resC (errD 1)).toArray)) := HB3.out.grown (grown_setRow _ _ _) HB3.out.size (fun k hk => by cases hk; omega)
      unfold resDV
      go_wp2
      refine bodyPost_ret (v := resDV (errD 1)) (results_res rfl _ _ (w.heap.size + 1) (by rfl) HF.out) rfl ?_
      exact ⟨rfl, HB9.out⟩
    · go_wp2_with fail
      (with_reducible refine (nAll nm _).mono ?_)
      rintro r w3 ⟨rfl, hb⟩
      clear b0 b1 b2 b3 b4 b5 b6 b7 b8 b9 b10 b11 b12
      have HB2 := Lib.hid (HB1.out.trans (hb.mono HB1.out.size))
      have B2 := Lib.hid (B1.out.later hb)
      have RO2 := Lib.hid (RO1.out.later hb)
      have RS2 := Lib.hid (RS1.out.later hb)
      clear HB1 B1 RO1 RS1 hb
      have RSm := Lib.hid (RS2.out.setRow (r' := setT (errD 0) zeroTab) rfl)
      have s9 := RSm.out.1.cell (resC_at RSm.out.2 (j := 9) rfl)
      have u9 := RSm.out.free 137
      have hst := RS2.out.storeT zeroTab_len
      have hz0 := tabA_128 zeroTab_len
      have hg : w3.grownBy ((w3.setRow (w.heap.size + 1 + 1) (resC (setT (errD 0) zeroTab)).toArray).setCell ⟨(w.heap.size + 1 + 1), 137, none⟩ (.int .i64 1)) (some (w.heap.size + 1 + 1)) := grown_trans (grown_setRow _ _ _) (grown_setCell _ _ _ _)
      have hr : ResAt ((w3.setRow (w.heap.size + 1 + 1) (resC (setT (errD 0) zeroTab)).toArray).setCell ⟨(w.heap.size + 1 + 1), 137, none⟩ (.int .i64 1)) (w.heap.size + 1 + 1) (errD 1) := (RS2.out.setRow (r' := setT (errD 0) zeroTab) rfl).setE 1
      have HB3 : Hid (Below w.heap.size w ((w3.setRow (w.heap.size + 1 + 1) (resC (setT (errD 0) zeroTab)).toArray).setCell ⟨(w.heap.size + 1 + 1), 137, none⟩ (.int .i64 1))) := HB2.out.grown hg HB2.out.size (fun k hk => by cases hk; omega)
      have RO3 : Hid (ResAt ((w3.setRow (w.heap.size + 1 + 1) (resC (setT (errD 0) zeroTab)).toArray).setCell ⟨(w.heap.size + 1 + 1), 137, none⟩ (.int .i64 1)) (w.heap.size + 1) (errD 0)) := RO2.out.kept (hg.block _ RO2.out.1.lt (by simp))
      have RS3 := Lib.hid hr
      clear hg hr HB2 RO2 RS2
      go_upto_region 25 with fail
      obtain ⟨wy, hwy⟩ : ∃ wy, ((w3.setRow (w.heap.size + 1 + 1) (resC (setT (errD 0) zeroTab)).toArray).setCell ⟨(w.heap.size + 1 + 1), 137, none⟩ (.int .i64 1)) = wy := ⟨_, rfl⟩
      rw [hwy] at HB3 RO3 RS3 ⊢
      clear hwy
      clear s9 u9
      clear hst hz0
      go_wp2
      refine wp_load_res _ (by rfl) (w.heap.size + 1 + 1) (by rfl) RS3.out ?_
      have hst := RO3.out.store (r' := errD 1) rfl
      have hsz : (resC (errD 1)).toArray.size = 138 := by rw [List.size_toArray, resC_len rfl]
      have HF : Hid (ResAt (wy.setRow (w.heap.size + 1) (resC (errD 1)).toArray) (w.heap.size + 1) (errD 1)) := RO3.out.setRow rfl
      have HB9 : Hid (Below w.heap.size w (wy.setRow (w.heap.size + 1) (resC (errD 1)).toArray)) := HB3.out.grown (grown_setRow _ _ _) HB3.out.size (fun k hk => by cases hk; omega)
      unfold resDV
      go_wp2
      refine bodyPost_ret (v := resDV (errD 1)) (results_res rfl _ _ (w.heap.size + 1) (by rfl) HF.out) rfl ?_
      exact ⟨rfl, HB9.out⟩
    · go_wp2_with fail
      (with_reducible refine (nGet nm fd _).mono ?_)
      rintro r w3 ⟨rfl, hb⟩
      clear b0 b1 b2 b3 b4 b5 b6 b7 b8 b9 b10 b11 b12
      have HB2 := Lib.hid (HB1.out.trans (hb.mono HB1.out.size))
      have B2 := Lib.hid (B1.out.later hb)
      have RO2 := Lib.hid (RO1.out.later hb)
      have RS2 := Lib.hid (RS1.out.later hb)
      clear HB1 B1 RO1 RS1 hb
      have s0 := RS2.out.1.cell (resC_at RS2.out.2 (j := 0) rfl)
      have s1 := RS2.out.1.cell (resC_at RS2.out.2 (j := 1) rfl)
      have s2 := RS2.out.1.cell (resC_at RS2.out.2 (j := 2) rfl)
      have s3 := RS2.out.1.cell (resC_at RS2.out.2 (j := 3) rfl)
      have s4 := RS2.out.1.cell (resC_at RS2.out.2 (j := 4) rfl)
      have s5 := RS2.out.1.cell (resC_at RS2.out.2 (j := 5) rfl)
      have s6 := RS2.out.1.cell (resC_at RS2.out.2 (j := 6) rfl)
      have s7 := RS2.out.1.cell (resC_at RS2.out.2 (j := 7) rfl)
      have s8 := RS2.out.1.cell (resC_at RS2.out.2 (j := 8) rfl)
      have s9 := RS2.out.1.cell (resC_at RS2.out.2 (j := 9) rfl)
      have u0 := RS2.out.free 128
      have u1 := RS2.out.free 129
      have u2 := RS2.out.free 130
      have u3 := RS2.out.free 131
      have u4 := RS2.out.free 132
      have u5 := RS2.out.free 133
      have u6 := RS2.out.free 134
      have u7 := RS2.out.free 135
      have u8 := RS2.out.free 136
      have u9 := RS2.out.free 137
      dsimp only [opnA]
      have hg : w3.grownBy (((((((((w3.setCell ⟨(w.heap.size + 1 + 1), 128, none⟩ (.int .i64 0)).setCell ⟨(w.heap.size + 1 + 1), 129, none⟩ (.string ⟨#[]⟩)).setCell ⟨(w.heap.size + 1 + 1), 130, none⟩ (.int .i64 0)).setCell ⟨(w.heap.size + 1 + 1), 131, none⟩ (.int .i64 0)).setCell ⟨(w.heap.size + 1 + 1), 132, none⟩ (.int .i64 0)).setCell ⟨(w.heap.size + 1 + 1), 133, none⟩ (.bool false)).setCell ⟨(w.heap.size + 1 + 1), 134, none⟩ (.bool false)).setCell ⟨(w.heap.size + 1 + 1), 135, none⟩ (.bool false)).setCell ⟨(w.heap.size + 1 + 1), 137, none⟩ (.int .i64 1)) (some (w.heap.size + 1 + 1)) := grown_trans (grown_set8 _ _ _ _ _ _ _ _ _ _ _ _ _ _ _ _ _ _) (grown_setCell _ _ _ _)
      have hr : ResAt (((((((((w3.setCell ⟨(w.heap.size + 1 + 1), 128, none⟩ (.int .i64 0)).setCell ⟨(w.heap.size + 1 + 1), 129, none⟩ (.string ⟨#[]⟩)).setCell ⟨(w.heap.size + 1 + 1), 130, none⟩ (.int .i64 0)).setCell ⟨(w.heap.size + 1 + 1), 131, none⟩ (.int .i64 0)).setCell ⟨(w.heap.size + 1 + 1), 132, none⟩ (.int .i64 0)).setCell ⟨(w.heap.size + 1 + 1), 133, none⟩ (.bool false)).setCell ⟨(w.heap.size + 1 + 1), 134, none⟩ (.bool false)).setCell ⟨(w.heap.size + 1 + 1), 135, none⟩ (.bool false)).setCell ⟨(w.heap.size + 1 + 1), 137, none⟩ (.int .i64 1)) (w.heap.size + 1 + 1) (errD 1) := (RS2.out.setO ⟨0, ⟨#[]⟩, 0, 0, 0, false, false, false⟩).setE 1
      have HB3 : Hid (Below w.heap.size w (((((((((w3.setCell ⟨(w.heap.size + 1 + 1), 128, none⟩ (.int .i64 0)).setCell ⟨(w.heap.size + 1 + 1), 129, none⟩ (.string ⟨#[]⟩)).setCell ⟨(w.heap.size + 1 + 1), 130, none⟩ (.int .i64 0)).setCell ⟨(w.heap.size + 1 + 1), 131, none⟩ (.int .i64 0)).setCell ⟨(w.heap.size + 1 + 1), 132, none⟩ (.int .i64 0)).setCell ⟨(w.heap.size + 1 + 1), 133, none⟩ (.bool false)).setCell ⟨(w.heap.size + 1 + 1), 134, none⟩ (.bool false)).setCell ⟨(w.heap.size + 1 + 1), 135, none⟩ (.bool false)).setCell ⟨(w.heap.size + 1 + 1), 137, none⟩ (.int .i64 1))) := HB2.out.grown hg HB2.out.size (fun k hk => by cases hk; omega)
      have RO3 : Hid (ResAt (((((((((w3.setCell ⟨(w.heap.size + 1 + 1), 128, none⟩ (.int .i64 0)).setCell ⟨(w.heap.size + 1 + 1), 129, none⟩ (.string ⟨#[]⟩)).setCell ⟨(w.heap.size + 1 + 1), 130, none⟩ (.int .i64 0)).setCell ⟨(w.heap.size + 1 + 1), 131, none⟩ (.int .i64 0)).setCell ⟨(w.heap.size + 1 + 1), 132, none⟩ (.int .i64 0)).setCell ⟨(w.heap.size + 1 + 1), 133, none⟩ (.bool false)).setCell ⟨(w.heap.size + 1 + 1), 134, none⟩ (.bool false)).setCell ⟨(w.heap.size + 1 + 1), 135, none⟩ (.bool false)).setCell ⟨(w.heap.size + 1 + 1), 137, none⟩ (.int .i64 1)) (w.heap.size + 1) (errD 0)) := RO2.out.kept (hg.block _ RO2.out.1.lt (by simp))
      have RS3 := Lib.hid hr
      clear hg hr HB2 RO2 RS2
      go_upto_region 25 with fail
      obtain ⟨wy, hwy⟩ : ∃ wy, (((((((((w3.setCell ⟨(w.heap.size + 1 + 1), 128, none⟩ (.int .i64 0)).setCell ⟨(w.heap.size + 1 + 1), 129, none⟩ (.string ⟨#[]⟩)).setCell ⟨(w.heap.size + 1 + 1), 130, none⟩ (.int .i64 0)).setCell ⟨(w.heap.size + 1 + 1), 131, none⟩ (.int .i64 0)).setCell ⟨(w.heap.size + 1 + 1), 132, none⟩ (.int .i64 0)).setCell ⟨(w.heap.size + 1 + 1), 133, none⟩ (.bool false)).setCell ⟨(w.heap.size + 1 + 1), 134, none⟩ (.bool false)).setCell ⟨(w.heap.size + 1 + 1), 135, none⟩ (.bool false)).setCell ⟨(w.heap.size + 1 + 1), 137, none⟩ (.int .i64 1)) = wy := ⟨_, rfl⟩
      rw [hwy] at HB3 RO3 RS3 ⊢
      clear hwy
      clear s0 u0 s1 u1 s2 u2 s3 u3 s4 u4 s5 u5 s6 u6 s7 u7 s8 u8 s9 u9
      go_wp2
      refine wp_load_res _ (by rfl) (w.heap.size + 1 + 1) (by rfl) RS3.out ?_
      have hst := RO3.out.store (r' := errD 1) rfl
      have hsz : (resC (errD 1)).toArray.size = 138 := by rw [List.size_toArray, resC_len rfl]
      have HF : Hid (ResAt (wy.setRow (w.heap.size + 1) (resC (errD 1)).toArray) (w.heap.size + 1) (errD 1)) := RO3.out.setRow rfl
      have HB9 : Hid (Below w.heap.size w (wy.setRow (w.heap.size + 1) (resC (errD 1)).toArray)) := HB3.out.grown (grown_setRow _ _ _) HB3.out.size (fun k hk => by cases hk; omega)
      unfold resDV
      go_wp2
      refine bodyPost_ret (v := resDV (errD 1)) (results_res rfl _ _ (w.heap.size + 1) (by rfl) HF.out) rfl ?_
      exact ⟨rfl, HB9.out⟩
    · go_wp2_with fail
      (with_reducible refine (nAdd nm okd omak obn onum ooff ord owr oap _).mono ?_)
      rintro r w3 ⟨rfl, hb⟩
      clear b0 b1 b2 b3 b4 b5 b6 b7 b8 b9 b10 b11 b12
      have HB2 := Lib.hid (HB1.out.trans (hb.mono HB1.out.size))
      have B2 := Lib.hid (B1.out.later hb)
      have RO2 := Lib.hid (RO1.out.later hb)
      have RS2 := Lib.hid (RS1.out.later hb)
      clear HB1 B1 RO1 RS1 hb
      have s8 := RS2.out.1.cell (resC_at RS2.out.2 (j := 8) rfl)
      have s9 := RS2.out.1.cell (resC_at RS2.out.2 (j := 9) rfl)
      have u8 := RS2.out.free 136
      have u9 := RS2.out.free 137
      have hg : w3.grownBy ((w3.setCell ⟨(w.heap.size + 1 + 1), 136, none⟩ (.int .i64 0)).setCell ⟨(w.heap.size + 1 + 1), 137, none⟩ (.int .i64 1)) (some (w.heap.size + 1 + 1)) := grown_trans (grown_setCell _ _ _ _) (grown_setCell _ _ _ _)
      have hr : ResAt ((w3.setCell ⟨(w.heap.size + 1 + 1), 136, none⟩ (.int .i64 0)).setCell ⟨(w.heap.size + 1 + 1), 137, none⟩ (.int .i64 1)) (w.heap.size + 1 + 1) (errD 1) := (RS2.out.setN 0).setE 1
      have HB3 : Hid (Below w.heap.size w ((w3.setCell ⟨(w.heap.size + 1 + 1), 136, none⟩ (.int .i64 0)).setCell ⟨(w.heap.size + 1 + 1), 137, none⟩ (.int .i64 1))) := HB2.out.grown hg HB2.out.size (fun k hk => by cases hk; omega)
      have RO3 : Hid (ResAt ((w3.setCell ⟨(w.heap.size + 1 + 1), 136, none⟩ (.int .i64 0)).setCell ⟨(w.heap.size + 1 + 1), 137, none⟩ (.int .i64 1)) (w.heap.size + 1) (errD 0)) := RO2.out.kept (hg.block _ RO2.out.1.lt (by simp))
      have RS3 := Lib.hid hr
      clear hg hr HB2 RO2 RS2
      go_upto_region 25 with fail
      obtain ⟨wy, hwy⟩ : ∃ wy, ((w3.setCell ⟨(w.heap.size + 1 + 1), 136, none⟩ (.int .i64 0)).setCell ⟨(w.heap.size + 1 + 1), 137, none⟩ (.int .i64 1)) = wy := ⟨_, rfl⟩
      rw [hwy] at HB3 RO3 RS3 ⊢
      clear hwy
      clear s8 u8 s9 u9
      go_wp2
      refine wp_load_res _ (by rfl) (w.heap.size + 1 + 1) (by rfl) RS3.out ?_
      have hst := RO3.out.store (r' := errD 1) rfl
      have hsz : (resC (errD 1)).toArray.size = 138 := by rw [List.size_toArray, resC_len rfl]
      have HF : Hid (ResAt (wy.setRow (w.heap.size + 1) (resC (errD 1)).toArray) (w.heap.size + 1) (errD 1)) := RO3.out.setRow rfl
      have HB9 : Hid (Below w.heap.size w (wy.setRow (w.heap.size + 1) (resC (errD 1)).toArray)) := HB3.out.grown (grown_setRow _ _ _) HB3.out.size (fun k hk => by cases hk; omega)
      unfold resDV
      go_wp2
      refine bodyPost_ret (v := resDV (errD 1)) (results_res rfl _ _ (w.heap.size + 1) (by rfl) HF.out) rfl ?_
      exact ⟨rfl, HB9.out⟩
    · go_wp2_with fail
      (with_reducible refine (nPut nm fd okd omak obn onum ooff ord owr oap _).mono ?_)
      rintro r w3 ⟨rfl, hb⟩
      clear b0 b1 b2 b3 b4 b5 b6 b7 b8 b9 b10 b11 b12
      have HB2 := Lib.hid (HB1.out.trans (hb.mono HB1.out.size))
      have B2 := Lib.hid (B1.out.later hb)
      have RO2 := Lib.hid (RO1.out.later hb)
      have RS2 := Lib.hid (RS1.out.later hb)
      clear HB1 B1 RO1 RS1 hb
      have s0 := RS2.out.1.cell (resC_at RS2.out.2 (j := 0) rfl)
      have s1 := RS2.out.1.cell (resC_at RS2.out.2 (j := 1) rfl)
      have s2 := RS2.out.1.cell (resC_at RS2.out.2 (j := 2) rfl)
      have s3 := RS2.out.1.cell (resC_at RS2.out.2 (j := 3) rfl)
      have s4 := RS2.out.1.cell (resC_at RS2.out.2 (j := 4) rfl)
      have s5 := RS2.out.1.cell (resC_at RS2.out.2 (j := 5) rfl)
      have s6 := RS2.out.1.cell (resC_at RS2.out.2 (j := 6) rfl)
      have s7 := RS2.out.1.cell (resC_at RS2.out.2 (j := 7) rfl)
      have s8 := RS2.out.1.cell (resC_at RS2.out.2 (j := 8) rfl)
      have s9 := RS2.out.1.cell (resC_at RS2.out.2 (j := 9) rfl)
      have u0 := RS2.out.free 128
      have u1 := RS2.out.free 129
      have u2 := RS2.out.free 130
      have u3 := RS2.out.free 131
      have u4 := RS2.out.free 132
      have u5 := RS2.out.free 133
      have u6 := RS2.out.free 134
      have u7 := RS2.out.free 135
      have u8 := RS2.out.free 136
      have u9 := RS2.out.free 137
      dsimp only [opnA]
      have hg : w3.grownBy (((((((((w3.setCell ⟨(w.heap.size + 1 + 1), 128, none⟩ (.int .i64 0)).setCell ⟨(w.heap.size + 1 + 1), 129, none⟩ (.string ⟨#[]⟩)).setCell ⟨(w.heap.size + 1 + 1), 130, none⟩ (.int .i64 0)).setCell ⟨(w.heap.size + 1 + 1), 131, none⟩ (.int .i64 0)).setCell ⟨(w.heap.size + 1 + 1), 132, none⟩ (.int .i64 0)).setCell ⟨(w.heap.size + 1 + 1), 133, none⟩ (.bool false)).setCell ⟨(w.heap.size + 1 + 1), 134, none⟩ (.bool false)).setCell ⟨(w.heap.size + 1 + 1), 135, none⟩ (.bool false)).setCell ⟨(w.heap.size + 1 + 1), 137, none⟩ (.int .i64 1)) (some (w.heap.size + 1 + 1)) := grown_trans (grown_set8 _ _ _ _ _ _ _ _ _ _ _ _ _ _ _ _ _ _) (grown_setCell _ _ _ _)
      have hr : ResAt (((((((((w3.setCell ⟨(w.heap.size + 1 + 1), 128, none⟩ (.int .i64 0)).setCell ⟨(w.heap.size + 1 + 1), 129, none⟩ (.string ⟨#[]⟩)).setCell ⟨(w.heap.size + 1 + 1), 130, none⟩ (.int .i64 0)).setCell ⟨(w.heap.size + 1 + 1), 131, none⟩ (.int .i64 0)).setCell ⟨(w.heap.size + 1 + 1), 132, none⟩ (.int .i64 0)).setCell ⟨(w.heap.size + 1 + 1), 133, none⟩ (.bool false)).setCell ⟨(w.heap.size + 1 + 1), 134, none⟩ (.bool false)).setCell ⟨(w.heap.size + 1 + 1), 135, none⟩ (.bool false)).setCell ⟨(w.heap.size + 1 + 1), 137, none⟩ (.int .i64 1)) (w.heap.size + 1 + 1) (errD 1) := (RS2.out.setO ⟨0, ⟨#[]⟩, 0, 0, 0, false, false, false⟩).setE 1
      have HB3 : Hid (Below w.heap.size w (((((((((w3.setCell ⟨(w.heap.size + 1 + 1), 128, none⟩ (.int .i64 0)).setCell ⟨(w.heap.size + 1 + 1), 129, none⟩ (.string ⟨#[]⟩)).setCell ⟨(w.heap.size + 1 + 1), 130, none⟩ (.int .i64 0)).setCell ⟨(w.heap.size + 1 + 1), 131, none⟩ (.int .i64 0)).setCell ⟨(w.heap.size + 1 + 1), 132, none⟩ (.int .i64 0)).setCell ⟨(w.heap.size + 1 + 1), 133, none⟩ (.bool false)).setCell ⟨(w.heap.size + 1 + 1), 134, none⟩ (.bool false)).setCell ⟨(w.heap.size + 1 + 1), 135, none⟩ (.bool false)).setCell ⟨(w.heap.size + 1 + 1), 137, none⟩ (.int .i64 1))) := HB2.out.grown hg HB2.out.size (fun k hk => by cases hk; omega)
      have RO3 : Hid (ResAt (((((((((w3.setCell ⟨(w.heap.size + 1 + 1), 128, none⟩ (.int .i64 0)).setCell ⟨(w.heap.size + 1 + 1), 129, none⟩ (.string ⟨#[]⟩)).setCell ⟨(w.heap.size + 1 + 1), 130, none⟩ (.int .i64 0)).setCell ⟨(w.heap.size + 1 + 1), 131, none⟩ (.int .i64 0)).setCell ⟨(w.heap.size + 1 + 1), 132, none⟩ (.int .i64 0)).setCell ⟨(w.heap.size + 1 + 1), 133, none⟩ (.bool false)).setCell ⟨(w.heap.size + 1 + 1), 134, none⟩ (.bool false)).setCell ⟨(w.heap.size + 1 + 1), 135, none⟩ (.bool false)).setCell ⟨(w.heap.size + 1 + 1), 137, none⟩ (.int .i64 1)) (w.heap.size + 1) (errD 0)) := RO2.out.kept (hg.block _ RO2.out.1.lt (by simp))
      have RS3 := Lib.hid hr
      clear hg hr HB2 RO2 RS2
      go_upto_region 25 with fail
      obtain ⟨wy, hwy⟩ : ∃ wy, (((((((((w3.setCell ⟨(w.heap.size + 1 + 1), 128, none⟩ (.int .i64 0)).setCell ⟨(w.heap.size + 1 + 1), 129, none⟩ (.string ⟨#[]⟩)).setCell ⟨(w.heap.size + 1 + 1), 130, none⟩ (.int .i64 0)).setCell ⟨(w.heap.size + 1 + 1), 131, none⟩ (.int .i64 0)).setCell ⟨(w.heap.size + 1 + 1), 132, none⟩ (.int .i64 0)).setCell ⟨(w.heap.size + 1 + 1), 133, none⟩ (.bool false)).setCell ⟨(w.heap.size + 1 + 1), 134, none⟩ (.bool false)).setCell ⟨(w.heap.size + 1 + 1), 135, none⟩ (.bool false)).setCell ⟨(w.heap.size + 1 + 1), 137, none⟩ (.int .i64 1)) = wy := ⟨_, rfl⟩
      rw [hwy] at HB3 RO3 RS3 ⊢
      clear hwy
      clear s0 u0 s1 u1 s2 u2 s3 u3 s4 u4 s5 u5 s6 u6 s7 u7 s8 u8 s9 u9
      go_wp2
      refine wp_load_res _ (by rfl) (w.heap.size + 1 + 1) (by rfl) RS3.out ?_
      have hst := RO3.out.store (r' := errD 1) rfl
      have hsz : (resC (errD 1)).toArray.size = 138 := by rw [List.size_toArray, resC_len rfl]
      have HF : Hid (ResAt (wy.setRow (w.heap.size + 1) (resC (errD 1)).toArray) (w.heap.size + 1) (errD 1)) := RO3.out.setRow rfl
      have HB9 : Hid (Below w.heap.size w (wy.setRow (w.heap.size + 1) (resC (errD 1)).toArray)) := HB3.out.grown (grown_setRow _ _ _) HB3.out.size (fun k hk => by cases hk; omega)
      unfold resDV
      go_wp2
      refine bodyPost_ret (v := resDV (errD 1)) (results_res rfl _ _ (w.heap.size + 1) (by rfl) HF.out) rfl ?_
      exact ⟨rfl, HB9.out⟩
    · go_wp2_with fail
      (with_reducible refine (nClose nm fd _).mono ?_)
      rintro r w3 ⟨rfl, hb⟩
      clear b0 b1 b2 b3 b4 b5 b6 b7 b8 b9 b10 b11 b12
      have HB2 := Lib.hid (HB1.out.trans (hb.mono HB1.out.size))
      have B2 := Lib.hid (B1.out.later hb)
      have RO2 := Lib.hid (RO1.out.later hb)
      have RS2 := Lib.hid (RS1.out.later hb)
      clear HB1 B1 RO1 RS1 hb
      have s0 := RS2.out.1.cell (resC_at RS2.out.2 (j := 0) rfl)
      have s1 := RS2.out.1.cell (resC_at RS2.out.2 (j := 1) rfl)
      have s2 := RS2.out.1.cell (resC_at RS2.out.2 (j := 2) rfl)
      have s3 := RS2.out.1.cell (resC_at RS2.out.2 (j := 3) rfl)
      have s4 := RS2.out.1.cell (resC_at RS2.out.2 (j := 4) rfl)
      have s5 := RS2.out.1.cell (resC_at RS2.out.2 (j := 5) rfl)
      have s6 := RS2.out.1.cell (resC_at RS2.out.2 (j := 6) rfl)
      have s7 := RS2.out.1.cell (resC_at RS2.out.2 (j := 7) rfl)
      have s8 := RS2.out.1.cell (resC_at RS2.out.2 (j := 8) rfl)
      have s9 := RS2.out.1.cell (resC_at RS2.out.2 (j := 9) rfl)
      have u0 := RS2.out.free 128
      have u1 := RS2.out.free 129
      have u2 := RS2.out.free 130
      have u3 := RS2.out.free 131
      have u4 := RS2.out.free 132
      have u5 := RS2.out.free 133
      have u6 := RS2.out.free 134
      have u7 := RS2.out.free 135
      have u8 := RS2.out.free 136
      have u9 := RS2.out.free 137
      dsimp only [opnA]
      have hg : w3.grownBy (((((((((w3.setCell ⟨(w.heap.size + 1 + 1), 128, none⟩ (.int .i64 0)).setCell ⟨(w.heap.size + 1 + 1), 129, none⟩ (.string ⟨#[]⟩)).setCell ⟨(w.heap.size + 1 + 1), 130, none⟩ (.int .i64 0)).setCell ⟨(w.heap.size + 1 + 1), 131, none⟩ (.int .i64 0)).setCell ⟨(w.heap.size + 1 + 1), 132, none⟩ (.int .i64 0)).setCell ⟨(w.heap.size + 1 + 1), 133, none⟩ (.bool false)).setCell ⟨(w.heap.size + 1 + 1), 134, none⟩ (.bool false)).setCell ⟨(w.heap.size + 1 + 1), 135, none⟩ (.bool false)).setCell ⟨(w.heap.size + 1 + 1), 137, none⟩ (.int .i64 1)) (some (w.heap.size + 1 + 1)) := grown_trans (grown_set8 _ _ _ _ _ _ _ _ _ _ _ _ _ _ _ _ _ _) (grown_setCell _ _ _ _)
      have hr : ResAt (((((((((w3.setCell ⟨(w.heap.size + 1 + 1), 128, none⟩ (.int .i64 0)).setCell ⟨(w.heap.size + 1 + 1), 129, none⟩ (.string ⟨#[]⟩)).setCell ⟨(w.heap.size + 1 + 1), 130, none⟩ (.int .i64 0)).setCell ⟨(w.heap.size + 1 + 1), 131, none⟩ (.int .i64 0)).setCell ⟨(w.heap.size + 1 + 1), 132, none⟩ (.int .i64 0)).setCell ⟨(w.heap.size + 1 + 1), 133, none⟩ (.bool false)).setCell ⟨(w.heap.size + 1 + 1), 134, none⟩ (.bool false)).setCell ⟨(w.heap.size + 1 + 1), 135, none⟩ (.bool false)).setCell ⟨(w.heap.size + 1 + 1), 137, none⟩ (.int .i64 1)) (w.heap.size + 1 + 1) (errD 1) := (RS2.out.setO ⟨0, ⟨#[]⟩, 0, 0, 0, false, false, false⟩).setE 1
      have HB3 : Hid (Below w.heap.size w (((((((((w3.setCell ⟨(w.heap.size + 1 + 1), 128, none⟩ (.int .i64 0)).setCell ⟨(w.heap.size + 1 + 1), 129, none⟩ (.string ⟨#[]⟩)).setCell ⟨(w.heap.size + 1 + 1), 130, none⟩ (.int .i64 0)).setCell ⟨(w.heap.size + 1 + 1), 131, none⟩ (.int .i64 0)).setCell ⟨(w.heap.size + 1 + 1), 132, none⟩ (.int .i64 0)).setCell ⟨(w.heap.size + 1 + 1), 133, none⟩ (.bool false)).setCell ⟨(w.heap.size + 1 + 1), 134, none⟩ (.bool false)).setCell ⟨(w.heap.size + 1 + 1), 135, none⟩ (.bool false)).setCell ⟨(w.heap.size + 1 + 1), 137, none⟩ (.int .i64 1))) := HB2.out.grown hg HB2.out.size (fun k hk => by cases hk; omega)
      have RO3 : Hid (ResAt (((((((((w3.setCell ⟨(w.heap.size + 1 + 1), 128, none⟩ (.int .i64 0)).setCell ⟨(w.heap.size + 1 + 1), 129, none⟩ (.string ⟨#[]⟩)).setCell ⟨(w.heap.size + 1 + 1), 130, none⟩ (.int .i64 0)).setCell ⟨(w.heap.size + 1 + 1), 131, none⟩ (.int .i64 0)).setCell ⟨(w.heap.size + 1 + 1), 132, none⟩ (.int .i64 0)).setCell ⟨(w.heap.size + 1 + 1), 133, none⟩ (.bool false)).setCell ⟨(w.heap.size + 1 + 1), 134, none⟩ (.bool false)).setCell ⟨(w.heap.size + 1 + 1), 135, none⟩ (.bool false)).setCell ⟨(w.heap.size + 1 + 1), 137, none⟩ (.int .i64 1)) (w.heap.size + 1) (errD 0)) := RO2.out.kept (hg.block _ RO2.out.1.lt (by simp))
      have RS3 := Lib.hid hr
      clear hg hr HB2 RO2 RS2
      go_upto_region 25 with fail
      obtain ⟨wy, hwy⟩ : ∃ wy, (((((((((w3.setCell ⟨(w.heap.size + 1 + 1), 128, none⟩ (.int .i64 0)).setCell ⟨(w.heap.size + 1 + 1), 129, none⟩ (.string ⟨#[]⟩)).setCell ⟨(w.heap.size + 1 + 1), 130, none⟩ (.int .i64 0)).setCell ⟨(w.heap.size + 1 + 1), 131, none⟩ (.int .i64 0)).setCell ⟨(w.heap.size + 1 + 1), 132, none⟩ (.int .i64 0)).setCell ⟨(w.heap.size + 1 + 1), 133, none⟩ (.bool false)).setCell ⟨(w.heap.size + 1 + 1), 134, none⟩ (.bool false)).setCell ⟨(w.heap.size + 1 + 1), 135, none⟩ (.bool false)).setCell ⟨(w.heap.size + 1 + 1), 137, none⟩ (.int .i64 1)) = wy := ⟨_, rfl⟩
      rw [hwy] at HB3 RO3 RS3 ⊢
      clear hwy
      clear s0 u0 s1 u1 s2 u2 s3 u3 s4 u4 s5 u5 s6 u6 s7 u7 s8 u8 s9 u9
      go_wp2
      refine wp_load_res _ (by rfl) (w.heap.size + 1 + 1) (by rfl) RS3.out ?_
      have hst := RO3.out.store (r' := errD 1) rfl
      have hsz : (resC (errD 1)).toArray.size = 138 := by rw [List.size_toArray, resC_len rfl]
      have HF : Hid (ResAt (wy.setRow (w.heap.size + 1) (resC (errD 1)).toArray) (w.heap.size + 1) (errD 1)) := RO3.out.setRow rfl
      have HB9 : Hid (Below w.heap.size w (wy.setRow (w.heap.size + 1) (resC (errD 1)).toArray)) := HB3.out.grown (grown_setRow _ _ _) HB3.out.size (fun k hk => by cases hk; omega)
      unfold resDV
      go_wp2
      refine bodyPost_ret (v := resDV (errD 1)) (results_res rfl _ _ (w.heap.size + 1) (by rfl) HF.out) rfl ?_
      exact ⟨rfl, HB9.out⟩
    · go_wp2_with fail
      (with_reducible refine (nSeek nm fd n _).mono ?_)
      rintro r w3 ⟨rfl, hb⟩
      clear b0 b1 b2 b3 b4 b5 b6 b7 b8 b9 b10 b11 b12
      have HB2 := Lib.hid (HB1.out.trans (hb.mono HB1.out.size))
      have B2 := Lib.hid (B1.out.later hb)
      have RO2 := Lib.hid (RO1.out.later hb)
      have RS2 := Lib.hid (RS1.out.later hb)
      clear HB1 B1 RO1 RS1 hb
      have s9 := RS2.out.1.cell (resC_at RS2.out.2 (j := 9) rfl)
      have u9 := RS2.out.free 137
      have hg : w3.grownBy (w3.setCell ⟨(w.heap.size + 1 + 1), 137, none⟩ (.int .i64 1)) (some (w.heap.size + 1 + 1)) := grown_setCell _ _ _ _
      have hr : ResAt (w3.setCell ⟨(w.heap.size + 1 + 1), 137, none⟩ (.int .i64 1)) (w.heap.size + 1 + 1) (errD 1) := RS2.out.setE 1
      have HB3 : Hid (Below w.heap.size w (w3.setCell ⟨(w.heap.size + 1 + 1), 137, none⟩ (.int .i64 1))) := HB2.out.grown hg HB2.out.size (fun k hk => by cases hk; omega)
      have RO3 : Hid (ResAt (w3.setCell ⟨(w.heap.size + 1 + 1), 137, none⟩ (.int .i64 1)) (w.heap.size + 1) (errD 0)) := RO2.out.kept (hg.block _ RO2.out.1.lt (by simp))
      have RS3 := Lib.hid hr
      clear hg hr HB2 RO2 RS2
      go_upto_region 25 with fail
      obtain ⟨wy, hwy⟩ : ∃ wy, (w3.setCell ⟨(w.heap.size + 1 + 1), 137, none⟩ (.int .i64 1)) = wy := ⟨_, rfl⟩
      rw [hwy] at HB3 RO3 RS3 ⊢
      clear hwy
      clear s9 u9
      go_wp2
      refine wp_load_res _ (by rfl) (w.heap.size + 1 + 1) (by rfl) RS3.out ?_
      have hst := RO3.out.store (r' := errD 1) rfl
      have hsz : (resC (errD 1)).toArray.size = 138 := by rw [List.size_toArray, resC_len rfl]
      have HF : Hid (ResAt (wy.setRow (w.heap.size + 1) (resC (errD 1)).toArray) (w.heap.size + 1) (errD 1)) := RO3.out.setRow rfl
      have HB9 : Hid (Below w.heap.size w (wy.setRow (w.heap.size + 1) (resC (errD 1)).toArray)) := HB3.out.grown (grown_setRow _ _ _) HB3.out.size (fun k hk => by cases hk; omega)
      unfold resDV
      go_wp2
      refine bodyPost_ret (v := resDV (errD 1)) (results_res rfl _ _ (w.heap.size + 1) (by rfl) HF.out) rfl ?_
      exact ⟨rfl, HB9.out⟩
    · go_wp2_with fail
      (with_reducible refine (nAdvance nm fd n _).mono ?_)
      rintro r w3 ⟨rfl, hb⟩
      clear b0 b1 b2 b3 b4 b5 b6 b7 b8 b9 b10 b11 b12
      have HB2 := Lib.hid (HB1.out.trans (hb.mono HB1.out.size))
      have B2 := Lib.hid (B1.out.later hb)
      have RO2 := Lib.hid (RO1.out.later hb)
      have RS2 := Lib.hid (RS1.out.later hb)
      clear HB1 B1 RO1 RS1 hb
      have s9 := RS2.out.1.cell (resC_at RS2.out.2 (j := 9) rfl)
      have u9 := RS2.out.free 137
      have hg : w3.grownBy (w3.setCell ⟨(w.heap.size + 1 + 1), 137, none⟩ (.int .i64 1)) (some (w.heap.size + 1 + 1)) := grown_setCell _ _ _ _
      have hr : ResAt (w3.setCell ⟨(w.heap.size + 1 + 1), 137, none⟩ (.int .i64 1)) (w.heap.size + 1 + 1) (errD 1) := RS2.out.setE 1
      have HB3 : Hid (Below w.heap.size w (w3.setCell ⟨(w.heap.size + 1 + 1), 137, none⟩ (.int .i64 1))) := HB2.out.grown hg HB2.out.size (fun k hk => by cases hk; omega)
      have RO3 : Hid (ResAt (w3.setCell ⟨(w.heap.size + 1 + 1), 137, none⟩ (.int .i64 1)) (w.heap.size + 1) (errD 0)) := RO2.out.kept (hg.block _ RO2.out.1.lt (by simp))
      have RS3 := Lib.hid hr
      clear hg hr HB2 RO2 RS2
      go_upto_region 25 with fail
      obtain ⟨wy, hwy⟩ : ∃ wy, (w3.setCell ⟨(w.heap.size + 1 + 1), 137, none⟩ (.int .i64 1)) = wy := ⟨_, rfl⟩
      rw [hwy] at HB3 RO3 RS3 ⊢
      clear hwy
      clear s9 u9
      go_wp2
      refine wp_load_res _ (by rfl) (w.heap.size + 1 + 1) (by rfl) RS3.out ?_
      have hst := RO3.out.store (r' := errD 1) rfl
      have hsz : (resC (errD 1)).toArray.size = 138 := by rw [List.size_toArray, resC_len rfl]
      have HF : Hid (ResAt (wy.setRow (w.heap.size + 1) (resC (errD 1)).toArray) (w.heap.size + 1) (errD 1)) := RO3.out.setRow rfl
      have HB9 : Hid (Below w.heap.size w (wy.setRow (w.heap.size + 1) (resC (errD 1)).toArray)) := HB3.out.grown (grown_setRow _ _ _) HB3.out.size (fun k hk => by cases hk; omega)
      unfold resDV
      go_wp2
      refine bodyPost_ret (v := resDV (errD 1)) (results_res rfl _ _ (w.heap.size + 1) (by rfl) HF.out) rfl ?_
      exact ⟨rfl, HB9.out⟩
    · go_wp2_with fail
      (with_reducible refine (nDup nm fd _).mono ?_)
      rintro r w3 ⟨rfl, hb⟩
      clear b0 b1 b2 b3 b4 b5 b6 b7 b8 b9 b10 b11 b12
      have HB2 := Lib.hid (HB1.out.trans (hb.mono HB1.out.size))
      have B2 := Lib.hid (B1.out.later hb)
      have RO2 := Lib.hid (RO1.out.later hb)
      have RS2 := Lib.hid (RS1.out.later hb)
      clear HB1 B1 RO1 RS1 hb
      have s8 := RS2.out.1.cell (resC_at RS2.out.2 (j := 8) rfl)
      have s9 := RS2.out.1.cell (resC_at RS2.out.2 (j := 9) rfl)
      have u8 := RS2.out.free 136
      have u9 := RS2.out.free 137
      have hg : w3.grownBy ((w3.setCell ⟨(w.heap.size + 1 + 1), 136, none⟩ (.int .i64 0)).setCell ⟨(w.heap.size + 1 + 1), 137, none⟩ (.int .i64 1)) (some (w.heap.size + 1 + 1)) := grown_trans (grown_setCell _ _ _ _) (grown_setCell _ _ _ _)
      have hr : ResAt ((w3.setCell ⟨(w.heap.size + 1 + 1), 136, none⟩ (.int .i64 0)).setCell ⟨(w.heap.size + 1 + 1), 137, none⟩ (.int .i64 1)) (w.heap.size + 1 + 1) (errD 1) := (RS2.out.setN 0).setE 1
      have HB3 : Hid (Below w.heap.size w ((w3.setCell ⟨(w.heap.size + 1 + 1), 136, none⟩ (.int .i64 0)).setCell ⟨(w.heap.size + 1 + 1), 137, none⟩ (.int .i64 1))) := HB2.out.grown hg HB2.out.size (fun k hk => by cases hk; omega)
      have RO3 : Hid (ResAt ((w3.setCell ⟨(w.heap.size + 1 + 1), 136, none⟩ (.int .i64 0)).setCell ⟨(w.heap.size + 1 + 1), 137, none⟩ (.int .i64 1)) (w.heap.size + 1) (errD 0)) := RO2.out.kept (hg.block _ RO2.out.1.lt (by simp))
      have RS3 := Lib.hid hr
      clear hg hr HB2 RO2 RS2
      go_upto_region 25 with fail
      obtain ⟨wy, hwy⟩ : ∃ wy, ((w3.setCell ⟨(w.heap.size + 1 + 1), 136, none⟩ (.int .i64 0)).setCell ⟨(w.heap.size + 1 + 1), 137, none⟩ (.int .i64 1)) = wy := ⟨_, rfl⟩
      rw [hwy] at HB3 RO3 RS3 ⊢
      clear hwy
      clear s8 u8 s9 u9
      go_wp2
      refine wp_load_res _ (by rfl) (w.heap.size + 1 + 1) (by rfl) RS3.out ?_
      have hst := RO3.out.store (r' := errD 1) rfl
      have hsz : (resC (errD 1)).toArray.size = 138 := by rw [List.size_toArray, resC_len rfl]
      have HF : Hid (ResAt (wy.setRow (w.heap.size + 1) (resC (errD 1)).toArray) (w.heap.size + 1) (errD 1)) := RO3.out.setRow rfl
      have HB9 : Hid (Below w.heap.size w (wy.setRow (w.heap.size + 1) (resC (errD 1)).toArray)) := HB3.out.grown (grown_setRow _ _ _) HB3.out.size (fun k hk => by cases hk; omega)
      unfold resDV
      go_wp2
      refine bodyPost_ret (v := resDV (errD 1)) (results_res rfl _ _ (w.heap.size + 1) (by rfl) HF.out) rfl ?_
      exact ⟨rfl, HB9.out⟩
end Go.Proofs.YtfchfjipkggnkaaDoor
