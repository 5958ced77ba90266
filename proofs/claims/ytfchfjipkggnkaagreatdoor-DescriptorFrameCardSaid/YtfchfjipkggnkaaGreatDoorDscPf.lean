/- Law 31: perform upon a view whose value is known. (printed by wip/gen_dscpf.py) -/
import Derived.Test.YtfchfjipkggnkaaGreatDoorDscRs
import Derived.Test.YtfchfjipkggnkaaGreatDoorDscT
import Derived.Test.YtfchfjipkggnkaaGreatDoorDscPt
import Derived.Test.YtfchfjipkggnkaaGreatDoorDscS
import Derived.Test.YtfchfjipkggnkaaGreatDoorDscU
import Derived.Deep.DeepCutAuto
namespace Go.Proofs.YtfchfjipkggnkaaGreatDoor
open Go.RowKit
attribute [local go_sem ↓] Go.wp_at_zero Go.wp_at_succ

theorem nmD_size (k : Nat) : (nmD k).size ≤ 70368744177664 := by
  unfold nmD
  repeat' split
  all_goals decide
section
variable {w0 w : World} {b M : Nat} {V : AV} {G : Nat → Prop} (s : QM w0 w b M V G)
include s
theorem qdAllF (who : ByteArray) (hw : who.size ≤ 70368744177664) : Calls Tryz.prog 10 #[.pointer (some ⟨b, 0, none⟩), .string who] w (QMP w0 b M ((dOne who allF).run V).1 G w (.tuple #[.agg (tabA ((dOne who allF).run V).2.T), .int .i64 ((dOne who allF).run V).2.E])) := by
  have h := qdAll s who hw
  have e : (dOne who allF).run V = (allV V who, if (allR V who).2 ≠ 0 then errD (allR V who).2 else ⟨(allR V who).1, zeroO, 0, 0⟩) := by
    rw [dOne_run]
    split
    · rename_i h1; rfl
    · rename_i h1; rfl
  have h0 : (allR V who).2 ≠ 0 → (allR V who).1 = zeroTab := fun hne => by
    unfold allR at hne ⊢
    split
    · rfl
    · rename_i hv
      rw [if_neg hv] at hne
      unfold tabR at hne ⊢
      split
      · rfl
      · rename_i hg
        rw [if_neg hg] at hne
        rw [decD_err _ hne]
  rw [e]
  by_cases h1 : (allR V who).2 ≠ 0
  · rw [if_pos h1]
    have h2 := h0 h1
    rw [h2] at h
    exact h
  · rw [if_neg h1]
    have h2 : (allR V who).2 = 0 := by omega
    rw [h2] at h
    exact h
set_option linter.unusedSimpArgs false in
set_option maxRecDepth 100000 in
set_option maxHeartbeats 25600000 in
theorem qdPerform (kd who tw : Nat) (fd n okd : Int) (omak : ByteArray) (obn onum ooff : Int) (ord owr oap : Bool) (hk : kd < 256) (hw : who < 256) (ht : tw < 256) (hd : -9223372036854775808 ≤ n ∧ n ≤ 9223372036854775807) (hmk : omak.size ≤ 70368744177664) (hlen : V.calls.length < 1000000) :
    Calls Tryz.prog 15 #[.pointer (some ⟨b, 0, none⟩), .agg #[.int .u8 kd, .int .u8 who, .int .u8 tw, .int .i64 fd, .int .i64 n, .int .i64 okd, .string omak, .int .i64 obn, .int .i64 onum, .int .i64 ooff, .bool ord, .bool owr, .bool oap]] w (QMP w0 b M ((pTree ⟨kd, who, tw, fd, n, ⟨okd, omak, obn, onum, ooff, ord, owr, oap⟩⟩).run V).1 G w (resDV ((pTree ⟨kd, who, tw, fd, n, ⟨okd, omak, obn, onum, ooff, ord, owr, oap⟩⟩).run V).2)) := by
  have hb0 : Below w.heap.size w (((w.alloc (.cells #[.int .u8 kd, .int .u8 who, .int .u8 tw, .int .i64 fd, .int .i64 n, .int .i64 okd, .string omak, .int .i64 obn, .int .i64 onum, .int .i64 ooff, .bool ord, .bool owr, .bool oap] 49)).alloc (.cells Tryz.zeroCells52 52)).alloc (.cells Tryz.zeroCells52 52)) := (((Below.refl _ _).alloc (Nat.le_refl _) _).alloc (by simp) _).alloc (by simp; omega) _
  have hb1 : Below (w.alloc (.cells #[.int .u8 kd, .int .u8 who, .int .u8 tw, .int .i64 fd, .int .i64 n, .int .i64 okd, .string omak, .int .i64 obn, .int .i64 onum, .int .i64 ooff, .bool ord, .bool owr, .bool oap] 49)).heap.size (w.alloc (.cells #[.int .u8 kd, .int .u8 who, .int .u8 tw, .int .i64 fd, .int .i64 n, .int .i64 okd, .string omak, .int .i64 obn, .int .i64 onum, .int .i64 ooff, .bool ord, .bool owr, .bool oap] 49)) ((w.alloc (.cells #[.int .u8 kd, .int .u8 who, .int .u8 tw, .int .i64 fd, .int .i64 n, .int .i64 okd, .string omak, .int .i64 obn, .int .i64 onum, .int .i64 ooff, .bool ord, .bool owr, .bool oap] 49)).alloc (.cells Tryz.zeroCells52 52)) := (Below.refl _ _).alloc (Nat.le_refl _) _
  have hb2 : Below ((w.alloc (.cells #[.int .u8 kd, .int .u8 who, .int .u8 tw, .int .i64 fd, .int .i64 n, .int .i64 okd, .string omak, .int .i64 obn, .int .i64 onum, .int .i64 ooff, .bool ord, .bool owr, .bool oap] 49)).alloc (.cells Tryz.zeroCells52 52)).heap.size ((w.alloc (.cells #[.int .u8 kd, .int .u8 who, .int .u8 tw, .int .i64 fd, .int .i64 n, .int .i64 okd, .string omak, .int .i64 obn, .int .i64 onum, .int .i64 ooff, .bool ord, .bool owr, .bool oap] 49)).alloc (.cells Tryz.zeroCells52 52)) (((w.alloc (.cells #[.int .u8 kd, .int .u8 who, .int .u8 tw, .int .i64 fd, .int .i64 n, .int .i64 okd, .string omak, .int .i64 obn, .int .i64 onum, .int .i64 ooff, .bool ord, .bool owr, .bool oap] 49)).alloc (.cells Tryz.zeroCells52 52)).alloc (.cells Tryz.zeroCells52 52)) := (Below.refl _ _).alloc (Nat.le_refl _) _
  have Q0 := Lib.hid (s.qi (W := (((w.alloc (.cells #[.int .u8 kd, .int .u8 who, .int .u8 tw, .int .i64 fd, .int .i64 n, .int .i64 okd, .string omak, .int .i64 obn, .int .i64 onum, .int .i64 ooff, .bool ord, .bool owr, .bool oap] 49)).alloc (.cells Tryz.zeroCells52 52)).alloc (.cells Tryz.zeroCells52 52))) (E := fun k => k = w.heap.size ∨ k = w.heap.size + 1 ∨ k = w.heap.size + 1 + 1) hb0 (fun k hk => by rcases hk with h | h | h <;> subst h <;> simp <;> omega))
  have B0 : Hid (RowIs (((w.alloc (.cells #[.int .u8 kd, .int .u8 who, .int .u8 tw, .int .i64 fd, .int .i64 n, .int .i64 okd, .string omak, .int .i64 obn, .int .i64 onum, .int .i64 ooff, .bool ord, .bool owr, .bool oap] 49)).alloc (.cells Tryz.zeroCells52 52)).alloc (.cells Tryz.zeroCells52 52)) w.heap.size 49 [.int .u8 kd, .int .u8 who, .int .u8 tw, .int .i64 fd, .int .i64 n, .int .i64 okd, .string omak, .int .i64 obn, .int .i64 onum, .int .i64 ooff, .bool ord, .bool owr, .bool oap]) := ((new_row w 49 [.int .u8 kd, .int .u8 who, .int .u8 tw, .int .i64 fd, .int .i64 n, .int .i64 okd, .string omak, .int .i64 obn, .int .i64 onum, .int .i64 ooff, .bool ord, .bool owr, .bool oap]).later hb1).later hb2
  have RO0 : Hid (ResAt (((w.alloc (.cells #[.int .u8 kd, .int .u8 who, .int .u8 tw, .int .i64 fd, .int .i64 n, .int .i64 okd, .string omak, .int .i64 obn, .int .i64 onum, .int .i64 ooff, .bool ord, .bool owr, .bool oap] 49)).alloc (.cells Tryz.zeroCells52 52)).alloc (.cells Tryz.zeroCells52 52)) (w.heap.size + 1) (errD 0)) := by
    have := (new_res (w.alloc (.cells #[.int .u8 kd, .int .u8 who, .int .u8 tw, .int .i64 fd, .int .i64 n, .int .i64 okd, .string omak, .int .i64 obn, .int .i64 onum, .int .i64 ooff, .bool ord, .bool owr, .bool oap] 49))).later hb2
    rw [World.size_alloc] at this
    exact this
  have RS0 : Hid (ResAt (((w.alloc (.cells #[.int .u8 kd, .int .u8 who, .int .u8 tw, .int .i64 fd, .int .i64 n, .int .i64 okd, .string omak, .int .i64 obn, .int .i64 onum, .int .i64 ooff, .bool ord, .bool owr, .bool oap] 49)).alloc (.cells Tryz.zeroCells52 52)).alloc (.cells Tryz.zeroCells52 52)) (w.heap.size + 1 + 1) (errD 0)) := by
    have := new_res ((w.alloc (.cells #[.int .u8 kd, .int .u8 who, .int .u8 tw, .int .i64 fd, .int .i64 n, .int .i64 okd, .string omak, .int .i64 obn, .int .i64 onum, .int .i64 ooff, .bool ord, .bool owr, .bool oap] 49)).alloc (.cells Tryz.zeroCells52 52))
    rw [World.size_alloc, World.size_alloc] at this
    exact this
  clear hb0 hb1 hb2 s
  obtain ⟨j, hj⟩ : ∃ j : Nat, who % 4 = j := ⟨_, rfl⟩
  obtain ⟨i, hi⟩ : ∃ i : Nat, tw % 4 = i := ⟨_, rfl⟩
  obtain ⟨nt, hnt⟩ : ∃ nt, nmD (tw % 4) = nt := ⟨_, rfl⟩
  obtain ⟨nm, hnm⟩ : ∃ nm, nmD (who % 4) = nm := ⟨_, rfl⟩
  have Hnz : Hid (nm.size ≤ 70368744177664) := by show _ ≤ _; rw [← hnm]; exact nmD_size _
  have HJ : Hid (who % 4 = j ∧ j < 4 ∧ nmD (who % 4) = nm) := ⟨hj, by omega, hnm⟩
  have HI : Hid (tw % 4 = i ∧ i < 4 ∧ nmD (tw % 4) = nt) := ⟨hi, by omega, hnt⟩
  clear hj hi hnm hnt
  have hkn : (0 : Int) ≤ (kd : Int) := by omega
  have hkx : (kd : Int) ≤ 255 := by omega
  have hwn : (0 : Int) ≤ (who : Int) := by omega
  have hwx : (who : Int) ≤ 255 := by omega
  have htn : (0 : Int) ≤ (tw : Int) := by omega
  have htx : (tw : Int) ≤ 255 := by omega
  have Hd := Lib.hid hd
  have Hmk := Lib.hid hmk
  have Hlen := Lib.hid hlen
  clear hd hmk hlen
  go_enter Tryz.func15, Tryz.ntmps15
  go_upto_region 2 with fail
  obtain ⟨w1, hw1⟩ : ∃ w1, (((w.alloc (.cells #[.int .u8 kd, .int .u8 who, .int .u8 tw, .int .i64 fd, .int .i64 n, .int .i64 okd, .string omak, .int .i64 obn, .int .i64 onum, .int .i64 ooff, .bool ord, .bool owr, .bool oap] 49)).alloc (.cells Tryz.zeroCells52 52)).alloc (.cells Tryz.zeroCells52 52)) = w1 := ⟨_, rfl⟩
  rw [hw1] at Q0 B0 RO0 RS0 ⊢
  clear hw1
  go_cut [6] (fun sv wx => sv = .string nm ∧ Hid (Below w1.heap.size w1 wx))
  case first =>
    obtain ⟨hj, hj4, hnm⟩ := HJ.out
    have Hnm : Hid (nmD j = nm) := by show _ = _; rw [← hj]; exact hnm
    clear hnm HI
    have j0 : (0 : Int) ≤ (j : Int) := by omega
    have j1 : (j : Int) < 4 := by omega
    have htm : (who : Int).tmod 4 = (j : Int) := by rw [Int.tmod_eq_emod_of_nonneg (by omega)]; omega
    clear hj
    have b1 := B0.out.cell (i := 1) rfl
    have HN : Hid (∀ W, Below w1.heap.size w1 W → W.cell? ⟨w.heap.size, 1, none⟩ = some (.int .u8 who)) := fun W h => (B0.out.later h).cell rfl
    refine wp_region_held_drew (S := (fun W => W.cell? ⟨w.heap.size, 1, none⟩ = some (.int .u8 who))) (by kernel_rfl) (HN.out _ (Below.refl _ _).drew) (fun hHeld0 => ?_)
    refine wpAnyH_take (i := 1) (v := ?_) rfl (by kernel_rfl) (by kernel_rfl) (by kernel_rfl) (fun _ _ _ h => h) (Or.inl ⟨by rfl, ?_⟩) (by assumption) ?_
    rotate_left
    · (intro wx hSw; (try dsimp only at hSw); go_simp <;> with_reducible rfl)
    try simp only [Act.put, List.setIfInBounds_toArray, List.set_cons_zero, List.set_cons_succ, List.getElem_toArray, List.getElem_cons_zero, List.getElem_cons_succ]
    refine wpAnyH_take (i := 2) (v := ?_) rfl (by kernel_rfl) (by kernel_rfl) (by kernel_rfl) (fun _ _ _ h => h) (Or.inl ⟨by rfl, ?_⟩) (by assumption) ?_
    rotate_left
    · (intro wx hSw; (try dsimp only at hSw); go_simp <;> with_reducible rfl)
    try simp only [Act.put, List.setIfInBounds_toArray, List.set_cons_zero, List.set_cons_succ, List.getElem_toArray, List.getElem_cons_zero, List.getElem_cons_succ]
    refine wpAnyH_take (i := 3) (v := ?_) rfl (by kernel_rfl) (by kernel_rfl) (by kernel_rfl) (fun _ _ _ h => h) (Or.inl ⟨by rfl, ?_⟩) (by assumption) ?_
    rotate_left
    · (intro wx hSw; (try dsimp only at hSw); go_simp <;> with_reducible rfl)
    try simp only [Act.put, List.setIfInBounds_toArray, List.set_cons_zero, List.set_cons_succ, List.getElem_toArray, List.getElem_cons_zero, List.getElem_cons_succ]
    refine wpAnyH_ready (rs := [0]) (by kernel_rfl) (by simp) ?_
    refine AllReadyH.cons rfl (fun K hK => ?_) AllReadyH.nil
    go_simp
    go_at_call 11
    (with_reducible refine (names31_any _).mono ?_)
    rintro r w2 ⟨rfl, hb, hn⟩
    have B2 : Hid (Below w1.heap.size w1 w2) := (Below.refl _ _).drew.trans hb
    have n1 : w2.cell? ⟨w1.heap.size, j, none⟩ = some (.string nm) := by
      have := hn.cell (nmCells_at hj4)
      rw [Hnm.out] at this
      exact this
    clear hn
    go_wp2_with fail
    refine hK.out _ _ (HN.out _ B2.out) (fun hHeld1 => ?_)
    clear hK K hHeld0
    try simp only [Act.put, List.setIfInBounds_toArray, List.set_cons_zero, List.set_cons_succ, List.getElem_toArray, List.getElem_cons_zero, List.getElem_cons_succ]
    refine wpAnyH_monoN (S2 := (fun W => W.cell? ⟨w.heap.size, 1, none⟩ = some (.int .u8 who) ∧ W.cell? ⟨w1.heap.size, j, none⟩ = some (.string nm))) (fun _ h => h.1) _ _ _ _ ?_
    have hRow : (fun W => W.cell? ⟨w.heap.size, 1, none⟩ = some (.int .u8 who) ∧ W.cell? ⟨w1.heap.size, j, none⟩ = some (.string nm)) w2 := ⟨HN.out _ B2.out, n1⟩
    refine wpAnyH_take (i := 4) (v := ?_) rfl (by kernel_rfl) (by kernel_rfl) (by kernel_rfl) (fun _ _ _ h => h) (Or.inl ⟨by rfl, ?_⟩) (by assumption) ?_
    rotate_left
    · (intro wx hSw; (try dsimp only at hSw); go_simp <;> with_reducible rfl)
    try simp only [Act.put, List.setIfInBounds_toArray, List.set_cons_zero, List.set_cons_succ, List.getElem_toArray, List.getElem_cons_zero, List.getElem_cons_succ]
    refine wpAnyH_take (i := 5) (v := ?_) rfl (by kernel_rfl) (by kernel_rfl) (by kernel_rfl) (fun _ _ _ h => h) (Or.inl ⟨by rfl, ?_⟩) (by assumption) ?_
    rotate_left
    · (intro wx hSw; (try dsimp only at hSw); go_simp <;> with_reducible rfl)
    try simp only [Act.put, List.setIfInBounds_toArray, List.set_cons_zero, List.set_cons_succ, List.getElem_toArray, List.getElem_cons_zero, List.getElem_cons_succ]
    refine wpAnyH_take (i := 6) (v := ?_) rfl (by kernel_rfl) (by kernel_rfl) (by kernel_rfl) (fun _ _ _ h => h) (Or.inl ⟨by rfl, ?_⟩) (by assumption) ?_
    rotate_left
    · (intro wx hSw; (try dsimp only at hSw); go_simp <;> with_reducible rfl)
    try simp only [Act.put, List.setIfInBounds_toArray, List.set_cons_zero, List.set_cons_succ, List.getElem_toArray, List.getElem_cons_zero, List.getElem_cons_succ]
    refine wpAnyH_done (by kernel_rfl) ?_ _
    go_wp2
    go_meet
    exact ⟨rfl, B2.out⟩
  case rest =>
    obtain ⟨rfl, Hb⟩ := hcut
    have hb := Hb.out
    have Hww : Hid (w.heap.size + 1 + 1 < wc.heap.size) := Nat.lt_of_lt_of_le RS0.out.1.lt hb.size
    clear Hb
    have Q1 := Lib.hid (Q0.out.later hb)
    have B1 := Lib.hid (B0.out.later hb)
    have RO1 := Lib.hid (RO0.out.later hb)
    have RS1 := Lib.hid (RS0.out.later hb)
    clear Q0 B0 RO0 RS0 hb
    have b0 := B1.out.cell (i := 0) rfl
    have b1 := B1.out.cell (i := 1) rfl
    have b2 := B1.out.cell (i := 2) rfl
    have b3 := B1.out.cell (i := 3) rfl
    have b4 := B1.out.cell (i := 4) rfl
    have b5 := B1.out.cell (i := 5) rfl
    have b6 := B1.out.cell (i := 6) rfl
    have b7 := B1.out.cell (i := 7) rfl
    have b8 := B1.out.cell (i := 8) rfl
    have b9 := B1.out.cell (i := 9) rfl
    have b10 := B1.out.cell (i := 10) rfl
    have b11 := B1.out.cell (i := 11) rfl
    have b12 := B1.out.cell (i := 12) rfl
    have hd := Hd.out
    have hmk := Hmk.out
    have hlen := Hlen.out
    clear Hd Hmk Hlen
    rcases (by omega : kd % 11 = 0 ∨ kd % 11 = 1 ∨ kd % 11 = 2 ∨ kd % 11 = 3 ∨ kd % 11 = 4 ∨ kd % 11 = 5 ∨ kd % 11 = 6 ∨ kd % 11 = 7 ∨ kd % 11 = 8 ∨ kd % 11 = 9 ∨ kd % 11 = 10) with hm | hm | hm | hm | hm | hm | hm | hm | hm | hm | hm
    · have hmi : (kd : Int) % 11 = 0 := by omega
      have HP : Hid ((pTree ⟨kd, who, tw, fd, n, ⟨okd, omak, obn, onum, ooff, ord, owr, oap⟩⟩).run V = (dMake nm).run V) := by
        show _ = _
        rw [pT0 (o := ⟨kd, who, tw, fd, n, ⟨okd, omak, obn, onum, ooff, ord, owr, oap⟩⟩) hm]
        dsimp only
        rw [HJ.out.2.2]
      have hsh := sh_make V nm
      obtain ⟨⟨V9, ⟨rT, rO, rN, rE⟩⟩, hp⟩ : ∃ p, (dMake nm).run V = p := ⟨_, rfl⟩
      rw [hp] at hsh HP
      obtain ⟨e1, e2, e3⟩ := hsh
      dsimp only at e1 e2 e3
      subst e1 e2 e3
      have Hp := Lib.hid hp
      clear hp
      have hc := qdMake Q1.out.s nm Hnz.out hlen
      rw [Hp.out] at hc
      dsimp only at hc
      have HC := Lib.hid hc
      clear hc
      go_wp2_with fail
      (with_reducible refine HC.out.mono ?_)
      rintro r w3 ⟨rfl, s3, hk⟩
      clear HC b0 b1 b2 b3 b4 b5 b6 b7 b8 b9 b10 b11 b12
      have Q2 := Lib.hid (Q1.out.step s3 hk)
      have RO2 := Lib.hid (RO1.out.kept (hk _ (.inr (.inr (.inl rfl)))))
      have RS2 := Lib.hid (RS1.out.kept (hk _ (.inr (.inr (.inr rfl)))))
      clear s3 hk Q1 RO1 RS1
      have s9 := RS2.out.1.cell (resC_at RS2.out.2 (j := 9) rfl)
      have u9 := RS2.out.free 137
      have hg : w3.grownBy (w3.setCell ⟨(w.heap.size + 1 + 1), 137, none⟩ (.int .i64 rE)) (some (w.heap.size + 1 + 1)) := grown_setCell _ _ _ _
      have hr : ResAt (w3.setCell ⟨(w.heap.size + 1 + 1), 137, none⟩ (.int .i64 rE)) (w.heap.size + 1 + 1) ⟨zeroTab, zeroO, 0, rE⟩ := RS2.out.setE rE
      have Q3 := Lib.hid (Q2.out.grown (w.heap.size + 1 + 1) (.inr (.inr rfl)) hg)
      have RO3 : Hid (ResAt (w3.setCell ⟨(w.heap.size + 1 + 1), 137, none⟩ (.int .i64 rE)) (w.heap.size + 1) (errD 0)) := RO2.out.kept (hg.block _ RO2.out.1.lt (by simp))
      have RS3 := Lib.hid hr
      clear hg hr Q2 RO2 RS2
      go_upto_region 25 with fail
      obtain ⟨wy, hwy⟩ : ∃ wy, (w3.setCell ⟨(w.heap.size + 1 + 1), 137, none⟩ (.int .i64 rE)) = wy := ⟨_, rfl⟩
      rw [hwy] at Q3 RO3 RS3 ⊢
      clear hwy
      clear s9 u9
      go_wp2
      refine wp_load_res _ (by rfl) (w.heap.size + 1 + 1) (by rfl) RS3.out ?_
      have hst := RO3.out.store (r' := ⟨zeroTab, zeroO, 0, rE⟩) rfl
      have hsz : (resC ⟨zeroTab, zeroO, 0, rE⟩).toArray.size = 138 := by rw [List.size_toArray, resC_len rfl]
      have HF : Hid (ResAt (wy.setRow (w.heap.size + 1) (resC ⟨zeroTab, zeroO, 0, rE⟩).toArray) (w.heap.size + 1) ⟨zeroTab, zeroO, 0, rE⟩) := RO3.out.setRow rfl
      have HQ := Lib.hid ((Q3.out.grown (w.heap.size + 1) (.inr (.inl rfl)) (grown_setRow wy (w.heap.size + 1) (resC ⟨zeroTab, zeroO, 0, rE⟩).toArray)).post (resDV ⟨zeroTab, zeroO, 0, rE⟩))
      unfold resDV
      go_wp2
      refine bodyPost_ret (v := resDV ⟨zeroTab, zeroO, 0, rE⟩) (results_res rfl _ _ (w.heap.size + 1) (by rfl) HF.out) rfl ?_
      rw [HP.out]
      exact HQ.out
    · have hmi : (kd : Int) % 11 = 1 := by omega
      have HP : Hid ((pTree ⟨kd, who, tw, fd, n, ⟨okd, omak, obn, onum, ooff, ord, owr, oap⟩⟩).run V = (dCopy nm nt).run V) := by
        show _ = _
        rw [pT1 (o := ⟨kd, who, tw, fd, n, ⟨okd, omak, obn, onum, ooff, ord, owr, oap⟩⟩) hm]
        dsimp only
        rw [HJ.out.2.2, HI.out.2.2]
      have hsh := sh_copy V nm nt
      obtain ⟨⟨V9, ⟨rT, rO, rN, rE⟩⟩, hp⟩ : ∃ p, (dCopy nm nt).run V = p := ⟨_, rfl⟩
      rw [hp] at hsh HP
      obtain ⟨e1, e2, e3⟩ := hsh
      dsimp only at e1 e2 e3
      subst e1 e2 e3
      have Hp := Lib.hid hp
      clear hp
      obtain ⟨hi, hi4, hnt⟩ := HI.out
      have Hnt : Hid (nmD i = nt) := by show _ = _; rw [← hi]; exact hnt
      have Hntz : Hid (nt.size ≤ 70368744177664) := by show _ ≤ _; rw [← hnt]; exact nmD_size _
      clear hnt
      have i0 : (0 : Int) ≤ (i : Int) := by omega
      have i1 : (i : Int) < 4 := by omega
      have htm : (tw : Int).tmod 4 = (i : Int) := by rw [Int.tmod_eq_emod_of_nonneg (by omega)]; omega
      clear hi
      have HN : Hid (∀ W, Below wc.heap.size wc W → W.cell? ⟨w.heap.size, 2, none⟩ = some (.int .u8 tw)) := fun W h => (B1.out.later h).cell rfl
      go_upto_region 8 with fail
      clear b0 b1 b2 b3 b4 b5 b6 b7 b8 b9 b10 b11 b12
      refine wp_region_held_drew (S := (fun W => W.cell? ⟨w.heap.size, 2, none⟩ = some (.int .u8 tw))) (by kernel_rfl) (HN.out _ (Below.refl _ _).drew) (fun hHeld0 => ?_)
      refine wpAnyH_take (i := 0) (v := ?_) rfl (by kernel_rfl) (by kernel_rfl) (by kernel_rfl) (fun _ _ _ h => h) (Or.inl ⟨by rfl, ?_⟩) (by assumption) ?_
      rotate_left
      · (intro wx hSw; (try dsimp only at hSw); go_simp <;> with_reducible rfl)
      try simp only [Act.put, List.setIfInBounds_toArray, List.set_cons_zero, List.set_cons_succ, List.getElem_toArray, List.getElem_cons_zero, List.getElem_cons_succ]
      refine wpAnyH_take (i := 1) (v := ?_) rfl (by kernel_rfl) (by kernel_rfl) (by kernel_rfl) (fun _ _ _ h => h) (Or.inl ⟨by rfl, ?_⟩) (by assumption) ?_
      rotate_left
      · (intro wx hSw; (try dsimp only at hSw); go_simp <;> with_reducible rfl)
      try simp only [Act.put, List.setIfInBounds_toArray, List.set_cons_zero, List.set_cons_succ, List.getElem_toArray, List.getElem_cons_zero, List.getElem_cons_succ]
      refine wpAnyH_take (i := 3) (v := ?_) rfl (by kernel_rfl) (by kernel_rfl) (by kernel_rfl) (fun _ _ _ h => h) (Or.inl ⟨by rfl, ?_⟩) (by assumption) ?_
      rotate_left
      · (intro wx hSw; (try dsimp only at hSw); go_simp <;> with_reducible rfl)
      try simp only [Act.put, List.setIfInBounds_toArray, List.set_cons_zero, List.set_cons_succ, List.getElem_toArray, List.getElem_cons_zero, List.getElem_cons_succ]
      refine wpAnyH_take (i := 4) (v := ?_) rfl (by kernel_rfl) (by kernel_rfl) (by kernel_rfl) (fun _ _ _ h => h) (Or.inl ⟨by rfl, ?_⟩) (by assumption) ?_
      rotate_left
      · (intro wx hSw; (try dsimp only at hSw); go_simp <;> with_reducible rfl)
      try simp only [Act.put, List.setIfInBounds_toArray, List.set_cons_zero, List.set_cons_succ, List.getElem_toArray, List.getElem_cons_zero, List.getElem_cons_succ]
      refine wpAnyH_take (i := 5) (v := ?_) rfl (by kernel_rfl) (by kernel_rfl) (by kernel_rfl) (fun _ _ _ h => h) (Or.inl ⟨by rfl, ?_⟩) (by assumption) ?_
      rotate_left
      · (intro wx hSw; (try dsimp only at hSw); go_simp <;> with_reducible rfl)
      try simp only [Act.put, List.setIfInBounds_toArray, List.set_cons_zero, List.set_cons_succ, List.getElem_toArray, List.getElem_cons_zero, List.getElem_cons_succ]
      refine wpAnyH_ready (rs := [2]) (by kernel_rfl) (by simp) ?_
      refine AllReadyH.cons rfl (fun K hK => ?_) AllReadyH.nil
      go_simp
      go_at_call 11
      (with_reducible refine (names31_any _).mono ?_)
      rintro r w4 ⟨rfl, hb4, hn⟩
      have B4w : Hid (Below wc.heap.size wc w4) := (Below.refl _ _).drew.trans hb4
      have n1 : w4.cell? ⟨wc.heap.size, i, none⟩ = some (.string nt) := by
        have := hn.cell (nmCells_at hi4)
        rw [Hnt.out] at this
        exact this
      have Hnb : Hid (wc.heap.size < w4.heap.size) := hn.lt
      have QN := Lib.hid (Q1.out.more (E' := fun k => k = w.heap.size ∨ k = w.heap.size + 1 ∨ k = w.heap.size + 1 + 1 ∨ k = wc.heap.size) B4w.out (fun k hk => by
        rcases hk with h | h | h | h
        · exact .inl (.inl h)
        · exact .inl (.inr (.inl h))
        · exact .inl (.inr (.inr h))
        · subst h; exact .inr ⟨Nat.le_refl _, Hnb.out⟩))
      have hbq := B4w.out
      have B2 := Lib.hid (B1.out.later hbq)
      have RO2 := Lib.hid (RO1.out.later hbq)
      have RS2 := Lib.hid (RS1.out.later hbq)
      clear Q1 B1 RO1 RS1 hbq
      have Q2 := QN
      clear QN
      clear hn hb4
      go_wp2_with fail
      refine hK.out _ _ (HN.out _ B4w.out) (fun hHeld1 => ?_)
      clear hK K hHeld0
      try simp only [Act.put, List.setIfInBounds_toArray, List.set_cons_zero, List.set_cons_succ, List.getElem_toArray, List.getElem_cons_zero, List.getElem_cons_succ]
      refine wpAnyH_monoN (S2 := (fun W => W.cell? ⟨w.heap.size, 2, none⟩ = some (.int .u8 tw) ∧ W.cell? ⟨wc.heap.size, i, none⟩ = some (.string nt))) (fun _ h => h.1) _ _ _ _ ?_
      have hRow : (fun W => W.cell? ⟨w.heap.size, 2, none⟩ = some (.int .u8 tw) ∧ W.cell? ⟨wc.heap.size, i, none⟩ = some (.string nt)) w4 := ⟨HN.out _ B4w.out, n1⟩
      refine wpAnyH_take (i := 6) (v := ?_) rfl (by kernel_rfl) (by kernel_rfl) (by kernel_rfl) (fun _ _ _ h => h) (Or.inl ⟨by rfl, ?_⟩) (by assumption) ?_
      rotate_left
      · (intro wx hSw; (try dsimp only at hSw); go_simp <;> with_reducible rfl)
      try simp only [Act.put, List.setIfInBounds_toArray, List.set_cons_zero, List.set_cons_succ, List.getElem_toArray, List.getElem_cons_zero, List.getElem_cons_succ]
      refine wpAnyH_take (i := 7) (v := ?_) rfl (by kernel_rfl) (by kernel_rfl) (by kernel_rfl) (fun _ _ _ h => h) (Or.inl ⟨by rfl, ?_⟩) (by assumption) ?_
      rotate_left
      · (intro wx hSw; (try dsimp only at hSw); go_simp <;> with_reducible rfl)
      try simp only [Act.put, List.setIfInBounds_toArray, List.set_cons_zero, List.set_cons_succ, List.getElem_toArray, List.getElem_cons_zero, List.getElem_cons_succ]
      have hc := qdCopy Q2.out.s nm nt Hnz.out Hntz.out hlen
      rw [Hp.out] at hc
      dsimp only at hc
      have HC := Lib.hid hc
      clear hc
      refine wpAnyH_ready (rs := [8]) (by kernel_rfl) (by simp) ?_
      refine AllReadyH.cons rfl (fun K hK => ?_) AllReadyH.nil
      go_simp
      go_at_call 13
      (with_reducible refine HC.out.mono ?_)
      rintro r w3 ⟨rfl, s3, hk⟩
      have hR3 : (fun W => W.cell? ⟨w.heap.size, 2, none⟩ = some (.int .u8 tw) ∧ W.cell? ⟨wc.heap.size, i, none⟩ = some (.string nt)) w3 := ⟨(RowIs.kept B2.out (hk _ (.inr (.inl rfl)))).cell rfl, (World.cell?_of_block (hk _ (.inr (.inr (.inr (.inr rfl)))))).trans n1⟩
      have Hw : Hid (w.heap.size + 1 + 1 < wc.heap.size) := Hww.out
      have Q3 := Lib.hid (((Q2.out.step s3 hk).drop (E' := fun k => k = w.heap.size ∨ k = w.heap.size + 1 ∨ k = w.heap.size + 1 + 1) (fun k h => by rcases h with h | h | h; exact .inl h; exact .inr (.inl h); exact .inr (.inr (.inl h)))))
      have RO3 := Lib.hid (RO2.out.kept (hk _ (.inr (.inr (.inl rfl)))))
      have RS3 := Lib.hid (RS2.out.kept (hk _ (.inr (.inr (.inr (.inl rfl))))))
      clear s3 hk Q2 RO2 RS2 B2
      have s9 := RS3.out.1.cell (resC_at RS3.out.2 (j := 9) rfl)
      have u9 := RS3.out.free 137
      go_wp2_with fail
      refine hK.out _ _ (hR3) (fun hHeld2 => ?_)
      clear hK K hRow hHeld1
      try simp only [Act.put, List.setIfInBounds_toArray, List.set_cons_zero, List.set_cons_succ, List.getElem_toArray, List.getElem_cons_zero, List.getElem_cons_succ]
      refine wpAnyH_take (i := 9) (v := ?_) rfl (by kernel_rfl) (by kernel_rfl) (by kernel_rfl) (fun _ _ _ h => h) (Or.inl ⟨by rfl, ?_⟩) (by assumption) ?_
      rotate_left
      · (intro wx hSw; (try dsimp only at hSw); go_simp <;> with_reducible rfl)
      try simp only [Act.put, List.setIfInBounds_toArray, List.set_cons_zero, List.set_cons_succ, List.getElem_toArray, List.getElem_cons_zero, List.getElem_cons_succ]
      refine wpAnyH_ready (rs := [10]) (by kernel_rfl) (by simp) ?_
      refine AllReadyH.cons rfl (fun K hK => ?_) AllReadyH.nil
      have hg : w3.grownBy (w3.setCell ⟨(w.heap.size + 1 + 1), 137, none⟩ (.int .i64 rE)) (some (w.heap.size + 1 + 1)) := grown_setCell _ _ _ _
      have hr : ResAt (w3.setCell ⟨(w.heap.size + 1 + 1), 137, none⟩ (.int .i64 rE)) (w.heap.size + 1 + 1) ⟨zeroTab, zeroO, 0, rE⟩ := RS3.out.setE rE
      have Q4 := Lib.hid (Q3.out.grown (w.heap.size + 1 + 1) (.inr (.inr rfl)) hg)
      have RO4 : Hid (ResAt (w3.setCell ⟨(w.heap.size + 1 + 1), 137, none⟩ (.int .i64 rE)) (w.heap.size + 1) (errD 0)) := RO3.out.kept (hg.block _ RO3.out.1.lt (by simp))
      have RS4 := Lib.hid hr
      clear hg hr Q3 RO3 RS3
      go_simp
      refine hK.out _ _ ⟨(cell_far _ (by omega) _ _ _).trans hHeld2.1, (cell_far _ (by have := Hw.out; omega) _ _ _).trans hHeld2.2⟩ (fun hH9 => ?_)
      clear hK K hHeld2 hR3 s9 u9 hH9
      try simp only [Act.put, List.setIfInBounds_toArray, List.set_cons_zero, List.set_cons_succ, List.getElem_toArray, List.getElem_cons_zero, List.getElem_cons_succ]
      refine wpAnyH_done (by kernel_rfl) ?_ _
      go_upto_region 25 with fail
      obtain ⟨wy, hwy⟩ : ∃ wy, (w3.setCell ⟨(w.heap.size + 1 + 1), 137, none⟩ (.int .i64 rE)) = wy := ⟨_, rfl⟩
      rw [hwy] at Q4 RO4 RS4 ⊢
      clear hwy
      go_wp2
      refine wp_load_res _ (by rfl) (w.heap.size + 1 + 1) (by rfl) RS4.out ?_
      have hst := RO4.out.store (r' := ⟨zeroTab, zeroO, 0, rE⟩) rfl
      have hsz : (resC ⟨zeroTab, zeroO, 0, rE⟩).toArray.size = 138 := by rw [List.size_toArray, resC_len rfl]
      have HF : Hid (ResAt (wy.setRow (w.heap.size + 1) (resC ⟨zeroTab, zeroO, 0, rE⟩).toArray) (w.heap.size + 1) ⟨zeroTab, zeroO, 0, rE⟩) := RO4.out.setRow rfl
      have HQ := Lib.hid ((Q4.out.grown (w.heap.size + 1) (.inr (.inl rfl)) (grown_setRow wy (w.heap.size + 1) (resC ⟨zeroTab, zeroO, 0, rE⟩).toArray)).post (resDV ⟨zeroTab, zeroO, 0, rE⟩))
      unfold resDV
      go_wp2
      refine bodyPost_ret (v := resDV ⟨zeroTab, zeroO, 0, rE⟩) (results_res rfl _ _ (w.heap.size + 1) (by rfl) HF.out) rfl ?_
      rw [HP.out]
      exact HQ.out
    · have hmi : (kd : Int) % 11 = 2 := by omega
      have HP : Hid ((pTree ⟨kd, who, tw, fd, n, ⟨okd, omak, obn, onum, ooff, ord, owr, oap⟩⟩).run V = (dOne nm dropF).run V) := by
        show _ = _
        rw [pT2 (o := ⟨kd, who, tw, fd, n, ⟨okd, omak, obn, onum, ooff, ord, owr, oap⟩⟩) hm]
        dsimp only
        rw [HJ.out.2.2]
      have hsh := sh_drop V nm
      obtain ⟨⟨V9, ⟨rT, rO, rN, rE⟩⟩, hp⟩ : ∃ p, (dOne nm dropF).run V = p := ⟨_, rfl⟩
      rw [hp] at hsh HP
      obtain ⟨hTl, e2, e3⟩ := hsh
      dsimp only at hTl e2 e3
      subst e2 e3
      have HTl := Lib.hid hTl
      clear hTl
      have Hp := Lib.hid hp
      clear hp
      have hc := qdDrop Q1.out.s nm Hnz.out hlen
      rw [Hp.out] at hc
      dsimp only at hc
      have HC := Lib.hid hc
      clear hc
      go_wp2_with fail
      (with_reducible refine HC.out.mono ?_)
      rintro r w3 ⟨rfl, s3, hk⟩
      clear HC b0 b1 b2 b3 b4 b5 b6 b7 b8 b9 b10 b11 b12
      have Q2 := Lib.hid (Q1.out.step s3 hk)
      have RO2 := Lib.hid (RO1.out.kept (hk _ (.inr (.inr (.inl rfl)))))
      have RS2 := Lib.hid (RS1.out.kept (hk _ (.inr (.inr (.inr rfl)))))
      clear s3 hk Q1 RO1 RS1
      have hTl := HTl.out
      have RSm := Lib.hid (RS2.out.setRow (r' := setT (errD 0) rT) hTl)
      have s9 := RSm.out.1.cell (resC_at RSm.out.2 (j := 9) rfl)
      have u9 := RSm.out.free 137
      have hst := RS2.out.storeT hTl
      have hz0 := tabA_128 hTl
      have hg : w3.grownBy ((w3.setRow (w.heap.size + 1 + 1) (resC (setT (errD 0) rT)).toArray).setCell ⟨(w.heap.size + 1 + 1), 137, none⟩ (.int .i64 rE)) (some (w.heap.size + 1 + 1)) := grown_trans (grown_setRow _ _ _) (grown_setCell _ _ _ _)
      have hr : ResAt ((w3.setRow (w.heap.size + 1 + 1) (resC (setT (errD 0) rT)).toArray).setCell ⟨(w.heap.size + 1 + 1), 137, none⟩ (.int .i64 rE)) (w.heap.size + 1 + 1) ⟨rT, zeroO, 0, rE⟩ := (RS2.out.setRow (r' := setT (errD 0) rT) hTl).setE rE
      have Q3 := Lib.hid (Q2.out.grown (w.heap.size + 1 + 1) (.inr (.inr rfl)) hg)
      have RO3 : Hid (ResAt ((w3.setRow (w.heap.size + 1 + 1) (resC (setT (errD 0) rT)).toArray).setCell ⟨(w.heap.size + 1 + 1), 137, none⟩ (.int .i64 rE)) (w.heap.size + 1) (errD 0)) := RO2.out.kept (hg.block _ RO2.out.1.lt (by simp))
      have RS3 := Lib.hid hr
      clear hg hr Q2 RO2 RS2
      clear hTl
      go_upto_region 25 with fail
      obtain ⟨wy, hwy⟩ : ∃ wy, ((w3.setRow (w.heap.size + 1 + 1) (resC (setT (errD 0) rT)).toArray).setCell ⟨(w.heap.size + 1 + 1), 137, none⟩ (.int .i64 rE)) = wy := ⟨_, rfl⟩
      rw [hwy] at Q3 RO3 RS3 ⊢
      clear hwy
      clear s9 u9
      clear hst hz0
      go_wp2
      refine wp_load_res _ (by rfl) (w.heap.size + 1 + 1) (by rfl) RS3.out ?_
      have hst := RO3.out.store (r' := ⟨rT, zeroO, 0, rE⟩) HTl.out
      have hsz : (resC ⟨rT, zeroO, 0, rE⟩).toArray.size = 138 := by rw [List.size_toArray, resC_len HTl.out]
      have HF : Hid (ResAt (wy.setRow (w.heap.size + 1) (resC ⟨rT, zeroO, 0, rE⟩).toArray) (w.heap.size + 1) ⟨rT, zeroO, 0, rE⟩) := RO3.out.setRow HTl.out
      have HQ := Lib.hid ((Q3.out.grown (w.heap.size + 1) (.inr (.inl rfl)) (grown_setRow wy (w.heap.size + 1) (resC ⟨rT, zeroO, 0, rE⟩).toArray)).post (resDV ⟨rT, zeroO, 0, rE⟩))
      unfold resDV
      go_wp2
      refine bodyPost_ret (v := resDV ⟨rT, zeroO, 0, rE⟩) (results_res rfl _ _ (w.heap.size + 1) (by rfl) HF.out) rfl ?_
      rw [HP.out]
      exact HQ.out
    · have hmi : (kd : Int) % 11 = 3 := by omega
      have HP : Hid ((pTree ⟨kd, who, tw, fd, n, ⟨okd, omak, obn, onum, ooff, ord, owr, oap⟩⟩).run V = (dOne nm allF).run V) := by
        show _ = _
        rw [pT3 (o := ⟨kd, who, tw, fd, n, ⟨okd, omak, obn, onum, ooff, ord, owr, oap⟩⟩) hm]
        dsimp only
        rw [HJ.out.2.2]
      have hsh := sh_all V nm
      obtain ⟨⟨V9, ⟨rT, rO, rN, rE⟩⟩, hp⟩ : ∃ p, (dOne nm allF).run V = p := ⟨_, rfl⟩
      rw [hp] at hsh HP
      obtain ⟨hTl, e2, e3⟩ := hsh
      dsimp only at hTl e2 e3
      subst e2 e3
      have HTl := Lib.hid hTl
      clear hTl
      have Hp := Lib.hid hp
      clear hp
      have hc := qdAllF Q1.out.s nm Hnz.out
      rw [Hp.out] at hc
      dsimp only at hc
      have HC := Lib.hid hc
      clear hc
      go_wp2_with fail
      (with_reducible refine HC.out.mono ?_)
      rintro r w3 ⟨rfl, s3, hk⟩
      clear HC b0 b1 b2 b3 b4 b5 b6 b7 b8 b9 b10 b11 b12
      have Q2 := Lib.hid (Q1.out.step s3 hk)
      have RO2 := Lib.hid (RO1.out.kept (hk _ (.inr (.inr (.inl rfl)))))
      have RS2 := Lib.hid (RS1.out.kept (hk _ (.inr (.inr (.inr rfl)))))
      clear s3 hk Q1 RO1 RS1
      have hTl := HTl.out
      have RSm := Lib.hid (RS2.out.setRow (r' := setT (errD 0) rT) hTl)
      have s9 := RSm.out.1.cell (resC_at RSm.out.2 (j := 9) rfl)
      have u9 := RSm.out.free 137
      have hst := RS2.out.storeT hTl
      have hz0 := tabA_128 hTl
      have hg : w3.grownBy ((w3.setRow (w.heap.size + 1 + 1) (resC (setT (errD 0) rT)).toArray).setCell ⟨(w.heap.size + 1 + 1), 137, none⟩ (.int .i64 rE)) (some (w.heap.size + 1 + 1)) := grown_trans (grown_setRow _ _ _) (grown_setCell _ _ _ _)
      have hr : ResAt ((w3.setRow (w.heap.size + 1 + 1) (resC (setT (errD 0) rT)).toArray).setCell ⟨(w.heap.size + 1 + 1), 137, none⟩ (.int .i64 rE)) (w.heap.size + 1 + 1) ⟨rT, zeroO, 0, rE⟩ := (RS2.out.setRow (r' := setT (errD 0) rT) hTl).setE rE
      have Q3 := Lib.hid (Q2.out.grown (w.heap.size + 1 + 1) (.inr (.inr rfl)) hg)
      have RO3 : Hid (ResAt ((w3.setRow (w.heap.size + 1 + 1) (resC (setT (errD 0) rT)).toArray).setCell ⟨(w.heap.size + 1 + 1), 137, none⟩ (.int .i64 rE)) (w.heap.size + 1) (errD 0)) := RO2.out.kept (hg.block _ RO2.out.1.lt (by simp))
      have RS3 := Lib.hid hr
      clear hg hr Q2 RO2 RS2
      clear hTl
      go_upto_region 25 with fail
      obtain ⟨wy, hwy⟩ : ∃ wy, ((w3.setRow (w.heap.size + 1 + 1) (resC (setT (errD 0) rT)).toArray).setCell ⟨(w.heap.size + 1 + 1), 137, none⟩ (.int .i64 rE)) = wy := ⟨_, rfl⟩
      rw [hwy] at Q3 RO3 RS3 ⊢
      clear hwy
      clear s9 u9
      clear hst hz0
      go_wp2
      refine wp_load_res _ (by rfl) (w.heap.size + 1 + 1) (by rfl) RS3.out ?_
      have hst := RO3.out.store (r' := ⟨rT, zeroO, 0, rE⟩) HTl.out
      have hsz : (resC ⟨rT, zeroO, 0, rE⟩).toArray.size = 138 := by rw [List.size_toArray, resC_len HTl.out]
      have HF : Hid (ResAt (wy.setRow (w.heap.size + 1) (resC ⟨rT, zeroO, 0, rE⟩).toArray) (w.heap.size + 1) ⟨rT, zeroO, 0, rE⟩) := RO3.out.setRow HTl.out
      have HQ := Lib.hid ((Q3.out.grown (w.heap.size + 1) (.inr (.inl rfl)) (grown_setRow wy (w.heap.size + 1) (resC ⟨rT, zeroO, 0, rE⟩).toArray)).post (resDV ⟨rT, zeroO, 0, rE⟩))
      unfold resDV
      go_wp2
      refine bodyPost_ret (v := resDV ⟨rT, zeroO, 0, rE⟩) (results_res rfl _ _ (w.heap.size + 1) (by rfl) HF.out) rfl ?_
      rw [HP.out]
      exact HQ.out
    · have hmi : (kd : Int) % 11 = 4 := by omega
      have HP : Hid ((pTree ⟨kd, who, tw, fd, n, ⟨okd, omak, obn, onum, ooff, ord, owr, oap⟩⟩).run V = (dOne nm (getF fd)).run V) := by
        show _ = _
        rw [pT4 (o := ⟨kd, who, tw, fd, n, ⟨okd, omak, obn, onum, ooff, ord, owr, oap⟩⟩) hm]
        dsimp only
        rw [HJ.out.2.2]
      have hsh := sh_get V nm fd
      obtain ⟨⟨V9, ⟨rT, rO, rN, rE⟩⟩, hp⟩ : ∃ p, (dOne nm (getF fd)).run V = p := ⟨_, rfl⟩
      rw [hp] at hsh HP
      obtain ⟨e1, e3⟩ := hsh
      dsimp only at e1 e3
      subst e1 e3
      obtain ⟨zkd, zmak, zbn, znum, zoff, zrd, zwr, zap⟩ := rO
      have Hp := Lib.hid hp
      clear hp
      have hc := qdGet Q1.out.s nm Hnz.out fd
      rw [Hp.out] at hc
      dsimp only at hc
      have HC := Lib.hid hc
      clear hc
      go_wp2_with fail
      (with_reducible refine HC.out.mono ?_)
      rintro r w3 ⟨rfl, s3, hk⟩
      clear HC b0 b1 b2 b3 b4 b5 b6 b7 b8 b9 b10 b11 b12
      have Q2 := Lib.hid (Q1.out.step s3 hk)
      have RO2 := Lib.hid (RO1.out.kept (hk _ (.inr (.inr (.inl rfl)))))
      have RS2 := Lib.hid (RS1.out.kept (hk _ (.inr (.inr (.inr rfl)))))
      clear s3 hk Q1 RO1 RS1
      have s0 := RS2.out.1.cell (resC_at RS2.out.2 (j := 0) rfl)
      have s1 := RS2.out.1.cell (resC_at RS2.out.2 (j := 1) rfl)
      have s2 := RS2.out.1.cell (resC_at RS2.out.2 (j := 2) rfl)
      have s3 := RS2.out.1.cell (resC_at RS2.out.2 (j := 3) rfl)
      have s4 := RS2.out.1.cell (resC_at RS2.out.2 (j := 4) rfl)
      have s5 := RS2.out.1.cell (resC_at RS2.out.2 (j := 5) rfl)
      have s6 := RS2.out.1.cell (resC_at RS2.out.2 (j := 6) rfl)
      have s7 := RS2.out.1.cell (resC_at RS2.out.2 (j := 7) rfl)
      have s8 := RS2.out.1.cell (resC_at RS2.out.2 (j := 8) rfl)
      have s9 := RS2.out.1.cell (resC_at RS2.out.2 (j := 9) rfl)
      have u0 := RS2.out.free 128
      have u1 := RS2.out.free 129
      have u2 := RS2.out.free 130
      have u3 := RS2.out.free 131
      have u4 := RS2.out.free 132
      have u5 := RS2.out.free 133
      have u6 := RS2.out.free 134
      have u7 := RS2.out.free 135
      have u8 := RS2.out.free 136
      have u9 := RS2.out.free 137
      dsimp only [opnA]
      have hg : w3.grownBy (((((((((w3.setCell ⟨(w.heap.size + 1 + 1), 128, none⟩ (.int .i64 zkd)).setCell ⟨(w.heap.size + 1 + 1), 129, none⟩ (.string zmak)).setCell ⟨(w.heap.size + 1 + 1), 130, none⟩ (.int .i64 zbn)).setCell ⟨(w.heap.size + 1 + 1), 131, none⟩ (.int .i64 znum)).setCell ⟨(w.heap.size + 1 + 1), 132, none⟩ (.int .i64 zoff)).setCell ⟨(w.heap.size + 1 + 1), 133, none⟩ (.bool zrd)).setCell ⟨(w.heap.size + 1 + 1), 134, none⟩ (.bool zwr)).setCell ⟨(w.heap.size + 1 + 1), 135, none⟩ (.bool zap)).setCell ⟨(w.heap.size + 1 + 1), 137, none⟩ (.int .i64 rE)) (some (w.heap.size + 1 + 1)) := grown_trans (grown_set8 _ _ _ _ _ _ _ _ _ _ _ _ _ _ _ _ _ _) (grown_setCell _ _ _ _)
      have hr : ResAt (((((((((w3.setCell ⟨(w.heap.size + 1 + 1), 128, none⟩ (.int .i64 zkd)).setCell ⟨(w.heap.size + 1 + 1), 129, none⟩ (.string zmak)).setCell ⟨(w.heap.size + 1 + 1), 130, none⟩ (.int .i64 zbn)).setCell ⟨(w.heap.size + 1 + 1), 131, none⟩ (.int .i64 znum)).setCell ⟨(w.heap.size + 1 + 1), 132, none⟩ (.int .i64 zoff)).setCell ⟨(w.heap.size + 1 + 1), 133, none⟩ (.bool zrd)).setCell ⟨(w.heap.size + 1 + 1), 134, none⟩ (.bool zwr)).setCell ⟨(w.heap.size + 1 + 1), 135, none⟩ (.bool zap)).setCell ⟨(w.heap.size + 1 + 1), 137, none⟩ (.int .i64 rE)) (w.heap.size + 1 + 1) ⟨zeroTab, ⟨zkd, zmak, zbn, znum, zoff, zrd, zwr, zap⟩, 0, rE⟩ := (RS2.out.setO ⟨zkd, zmak, zbn, znum, zoff, zrd, zwr, zap⟩).setE rE
      have Q3 := Lib.hid (Q2.out.grown (w.heap.size + 1 + 1) (.inr (.inr rfl)) hg)
      have RO3 : Hid (ResAt (((((((((w3.setCell ⟨(w.heap.size + 1 + 1), 128, none⟩ (.int .i64 zkd)).setCell ⟨(w.heap.size + 1 + 1), 129, none⟩ (.string zmak)).setCell ⟨(w.heap.size + 1 + 1), 130, none⟩ (.int .i64 zbn)).setCell ⟨(w.heap.size + 1 + 1), 131, none⟩ (.int .i64 znum)).setCell ⟨(w.heap.size + 1 + 1), 132, none⟩ (.int .i64 zoff)).setCell ⟨(w.heap.size + 1 + 1), 133, none⟩ (.bool zrd)).setCell ⟨(w.heap.size + 1 + 1), 134, none⟩ (.bool zwr)).setCell ⟨(w.heap.size + 1 + 1), 135, none⟩ (.bool zap)).setCell ⟨(w.heap.size + 1 + 1), 137, none⟩ (.int .i64 rE)) (w.heap.size + 1) (errD 0)) := RO2.out.kept (hg.block _ RO2.out.1.lt (by simp))
      have RS3 := Lib.hid hr
      clear hg hr Q2 RO2 RS2
      go_upto_region 25 with fail
      obtain ⟨wy, hwy⟩ : ∃ wy, (((((((((w3.setCell ⟨(w.heap.size + 1 + 1), 128, none⟩ (.int .i64 zkd)).setCell ⟨(w.heap.size + 1 + 1), 129, none⟩ (.string zmak)).setCell ⟨(w.heap.size + 1 + 1), 130, none⟩ (.int .i64 zbn)).setCell ⟨(w.heap.size + 1 + 1), 131, none⟩ (.int .i64 znum)).setCell ⟨(w.heap.size + 1 + 1), 132, none⟩ (.int .i64 zoff)).setCell ⟨(w.heap.size + 1 + 1), 133, none⟩ (.bool zrd)).setCell ⟨(w.heap.size + 1 + 1), 134, none⟩ (.bool zwr)).setCell ⟨(w.heap.size + 1 + 1), 135, none⟩ (.bool zap)).setCell ⟨(w.heap.size + 1 + 1), 137, none⟩ (.int .i64 rE)) = wy := ⟨_, rfl⟩
      rw [hwy] at Q3 RO3 RS3 ⊢
      clear hwy
      clear s0 u0 s1 u1 s2 u2 s3 u3 s4 u4 s5 u5 s6 u6 s7 u7 s8 u8 s9 u9
      go_wp2
      refine wp_load_res _ (by rfl) (w.heap.size + 1 + 1) (by rfl) RS3.out ?_
      have hst := RO3.out.store (r' := ⟨zeroTab, ⟨zkd, zmak, zbn, znum, zoff, zrd, zwr, zap⟩, 0, rE⟩) rfl
      have hsz : (resC ⟨zeroTab, ⟨zkd, zmak, zbn, znum, zoff, zrd, zwr, zap⟩, 0, rE⟩).toArray.size = 138 := by rw [List.size_toArray, resC_len rfl]
      have HF : Hid (ResAt (wy.setRow (w.heap.size + 1) (resC ⟨zeroTab, ⟨zkd, zmak, zbn, znum, zoff, zrd, zwr, zap⟩, 0, rE⟩).toArray) (w.heap.size + 1) ⟨zeroTab, ⟨zkd, zmak, zbn, znum, zoff, zrd, zwr, zap⟩, 0, rE⟩) := RO3.out.setRow rfl
      have HQ := Lib.hid ((Q3.out.grown (w.heap.size + 1) (.inr (.inl rfl)) (grown_setRow wy (w.heap.size + 1) (resC ⟨zeroTab, ⟨zkd, zmak, zbn, znum, zoff, zrd, zwr, zap⟩, 0, rE⟩).toArray)).post (resDV ⟨zeroTab, ⟨zkd, zmak, zbn, znum, zoff, zrd, zwr, zap⟩, 0, rE⟩))
      unfold resDV
      go_wp2
      refine bodyPost_ret (v := resDV ⟨zeroTab, ⟨zkd, zmak, zbn, znum, zoff, zrd, zwr, zap⟩, 0, rE⟩) (results_res rfl _ _ (w.heap.size + 1) (by rfl) HF.out) rfl ?_
      rw [HP.out]
      exact HQ.out
    · have hmi : (kd : Int) % 11 = 5 := by omega
      have HP : Hid ((pTree ⟨kd, who, tw, fd, n, ⟨okd, omak, obn, onum, ooff, ord, owr, oap⟩⟩).run V = (dAdd nm ⟨okd, omak, obn, onum, ooff, ord, owr, oap⟩).run V) := by
        show _ = _
        rw [pT5 (o := ⟨kd, who, tw, fd, n, ⟨okd, omak, obn, onum, ooff, ord, owr, oap⟩⟩) hm]
        dsimp only
        rw [HJ.out.2.2]
      have hsh := sh_add V nm ⟨okd, omak, obn, onum, ooff, ord, owr, oap⟩
      obtain ⟨⟨V9, ⟨rT, rO, rN, rE⟩⟩, hp⟩ : ∃ p, (dAdd nm ⟨okd, omak, obn, onum, ooff, ord, owr, oap⟩).run V = p := ⟨_, rfl⟩
      rw [hp] at hsh HP
      obtain ⟨e1, e2⟩ := hsh
      dsimp only at e1 e2
      subst e1 e2
      have Hp := Lib.hid hp
      clear hp
      have hc := qdAdd Q1.out.s nm Hnz.out okd omak obn onum ooff ord owr oap hmk hlen
      rw [Hp.out] at hc
      dsimp only at hc
      have HC := Lib.hid hc
      clear hc
      go_wp2_with fail
      (with_reducible refine HC.out.mono ?_)
      rintro r w3 ⟨rfl, s3, hk⟩
      clear HC b0 b1 b2 b3 b4 b5 b6 b7 b8 b9 b10 b11 b12
      have Q2 := Lib.hid (Q1.out.step s3 hk)
      have RO2 := Lib.hid (RO1.out.kept (hk _ (.inr (.inr (.inl rfl)))))
      have RS2 := Lib.hid (RS1.out.kept (hk _ (.inr (.inr (.inr rfl)))))
      clear s3 hk Q1 RO1 RS1
      have s8 := RS2.out.1.cell (resC_at RS2.out.2 (j := 8) rfl)
      have s9 := RS2.out.1.cell (resC_at RS2.out.2 (j := 9) rfl)
      have u8 := RS2.out.free 136
      have u9 := RS2.out.free 137
      have hg : w3.grownBy ((w3.setCell ⟨(w.heap.size + 1 + 1), 136, none⟩ (.int .i64 rN)).setCell ⟨(w.heap.size + 1 + 1), 137, none⟩ (.int .i64 rE)) (some (w.heap.size + 1 + 1)) := grown_trans (grown_setCell _ _ _ _) (grown_setCell _ _ _ _)
      have hr : ResAt ((w3.setCell ⟨(w.heap.size + 1 + 1), 136, none⟩ (.int .i64 rN)).setCell ⟨(w.heap.size + 1 + 1), 137, none⟩ (.int .i64 rE)) (w.heap.size + 1 + 1) ⟨zeroTab, zeroO, rN, rE⟩ := (RS2.out.setN rN).setE rE
      have Q3 := Lib.hid (Q2.out.grown (w.heap.size + 1 + 1) (.inr (.inr rfl)) hg)
      have RO3 : Hid (ResAt ((w3.setCell ⟨(w.heap.size + 1 + 1), 136, none⟩ (.int .i64 rN)).setCell ⟨(w.heap.size + 1 + 1), 137, none⟩ (.int .i64 rE)) (w.heap.size + 1) (errD 0)) := RO2.out.kept (hg.block _ RO2.out.1.lt (by simp))
      have RS3 := Lib.hid hr
      clear hg hr Q2 RO2 RS2
      go_upto_region 25 with fail
      obtain ⟨wy, hwy⟩ : ∃ wy, ((w3.setCell ⟨(w.heap.size + 1 + 1), 136, none⟩ (.int .i64 rN)).setCell ⟨(w.heap.size + 1 + 1), 137, none⟩ (.int .i64 rE)) = wy := ⟨_, rfl⟩
      rw [hwy] at Q3 RO3 RS3 ⊢
      clear hwy
      clear s8 u8 s9 u9
      go_wp2
      refine wp_load_res _ (by rfl) (w.heap.size + 1 + 1) (by rfl) RS3.out ?_
      have hst := RO3.out.store (r' := ⟨zeroTab, zeroO, rN, rE⟩) rfl
      have hsz : (resC ⟨zeroTab, zeroO, rN, rE⟩).toArray.size = 138 := by rw [List.size_toArray, resC_len rfl]
      have HF : Hid (ResAt (wy.setRow (w.heap.size + 1) (resC ⟨zeroTab, zeroO, rN, rE⟩).toArray) (w.heap.size + 1) ⟨zeroTab, zeroO, rN, rE⟩) := RO3.out.setRow rfl
      have HQ := Lib.hid ((Q3.out.grown (w.heap.size + 1) (.inr (.inl rfl)) (grown_setRow wy (w.heap.size + 1) (resC ⟨zeroTab, zeroO, rN, rE⟩).toArray)).post (resDV ⟨zeroTab, zeroO, rN, rE⟩))
      unfold resDV
      go_wp2
      refine bodyPost_ret (v := resDV ⟨zeroTab, zeroO, rN, rE⟩) (results_res rfl _ _ (w.heap.size + 1) (by rfl) HF.out) rfl ?_
      rw [HP.out]
      exact HQ.out
    · have hmi : (kd : Int) % 11 = 6 := by omega
      have HP : Hid ((pTree ⟨kd, who, tw, fd, n, ⟨okd, omak, obn, onum, ooff, ord, owr, oap⟩⟩).run V = (dPut nm fd ⟨okd, omak, obn, onum, ooff, ord, owr, oap⟩).run V) := by
        show _ = _
        rw [pT6 (o := ⟨kd, who, tw, fd, n, ⟨okd, omak, obn, onum, ooff, ord, owr, oap⟩⟩) hm]
        dsimp only
        rw [HJ.out.2.2]
      have hsh := sh_put V nm fd ⟨okd, omak, obn, onum, ooff, ord, owr, oap⟩
      obtain ⟨⟨V9, ⟨rT, rO, rN, rE⟩⟩, hp⟩ : ∃ p, (dPut nm fd ⟨okd, omak, obn, onum, ooff, ord, owr, oap⟩).run V = p := ⟨_, rfl⟩
      rw [hp] at hsh HP
      obtain ⟨e1, e3⟩ := hsh
      dsimp only at e1 e3
      subst e1 e3
      obtain ⟨zkd, zmak, zbn, znum, zoff, zrd, zwr, zap⟩ := rO
      have Hp := Lib.hid hp
      clear hp
      have hc := qdPut Q1.out.s nm Hnz.out fd okd omak obn onum ooff ord owr oap hmk hlen
      rw [Hp.out] at hc
      dsimp only at hc
      have HC := Lib.hid hc
      clear hc
      go_wp2_with fail
      (with_reducible refine HC.out.mono ?_)
      rintro r w3 ⟨rfl, s3, hk⟩
      clear HC b0 b1 b2 b3 b4 b5 b6 b7 b8 b9 b10 b11 b12
      have Q2 := Lib.hid (Q1.out.step s3 hk)
      have RO2 := Lib.hid (RO1.out.kept (hk _ (.inr (.inr (.inl rfl)))))
      have RS2 := Lib.hid (RS1.out.kept (hk _ (.inr (.inr (.inr rfl)))))
      clear s3 hk Q1 RO1 RS1
      have s0 := RS2.out.1.cell (resC_at RS2.out.2 (j := 0) rfl)
      have s1 := RS2.out.1.cell (resC_at RS2.out.2 (j := 1) rfl)
      have s2 := RS2.out.1.cell (resC_at RS2.out.2 (j := 2) rfl)
      have s3 := RS2.out.1.cell (resC_at RS2.out.2 (j := 3) rfl)
      have s4 := RS2.out.1.cell (resC_at RS2.out.2 (j := 4) rfl)
      have s5 := RS2.out.1.cell (resC_at RS2.out.2 (j := 5) rfl)
      have s6 := RS2.out.1.cell (resC_at RS2.out.2 (j := 6) rfl)
      have s7 := RS2.out.1.cell (resC_at RS2.out.2 (j := 7) rfl)
      have s8 := RS2.out.1.cell (resC_at RS2.out.2 (j := 8) rfl)
      have s9 := RS2.out.1.cell (resC_at RS2.out.2 (j := 9) rfl)
      have u0 := RS2.out.free 128
      have u1 := RS2.out.free 129
      have u2 := RS2.out.free 130
      have u3 := RS2.out.free 131
      have u4 := RS2.out.free 132
      have u5 := RS2.out.free 133
      have u6 := RS2.out.free 134
      have u7 := RS2.out.free 135
      have u8 := RS2.out.free 136
      have u9 := RS2.out.free 137
      dsimp only [opnA]
      have hg : w3.grownBy (((((((((w3.setCell ⟨(w.heap.size + 1 + 1), 128, none⟩ (.int .i64 zkd)).setCell ⟨(w.heap.size + 1 + 1), 129, none⟩ (.string zmak)).setCell ⟨(w.heap.size + 1 + 1), 130, none⟩ (.int .i64 zbn)).setCell ⟨(w.heap.size + 1 + 1), 131, none⟩ (.int .i64 znum)).setCell ⟨(w.heap.size + 1 + 1), 132, none⟩ (.int .i64 zoff)).setCell ⟨(w.heap.size + 1 + 1), 133, none⟩ (.bool zrd)).setCell ⟨(w.heap.size + 1 + 1), 134, none⟩ (.bool zwr)).setCell ⟨(w.heap.size + 1 + 1), 135, none⟩ (.bool zap)).setCell ⟨(w.heap.size + 1 + 1), 137, none⟩ (.int .i64 rE)) (some (w.heap.size + 1 + 1)) := grown_trans (grown_set8 _ _ _ _ _ _ _ _ _ _ _ _ _ _ _ _ _ _) (grown_setCell _ _ _ _)
      have hr : ResAt (((((((((w3.setCell ⟨(w.heap.size + 1 + 1), 128, none⟩ (.int .i64 zkd)).setCell ⟨(w.heap.size + 1 + 1), 129, none⟩ (.string zmak)).setCell ⟨(w.heap.size + 1 + 1), 130, none⟩ (.int .i64 zbn)).setCell ⟨(w.heap.size + 1 + 1), 131, none⟩ (.int .i64 znum)).setCell ⟨(w.heap.size + 1 + 1), 132, none⟩ (.int .i64 zoff)).setCell ⟨(w.heap.size + 1 + 1), 133, none⟩ (.bool zrd)).setCell ⟨(w.heap.size + 1 + 1), 134, none⟩ (.bool zwr)).setCell ⟨(w.heap.size + 1 + 1), 135, none⟩ (.bool zap)).setCell ⟨(w.heap.size + 1 + 1), 137, none⟩ (.int .i64 rE)) (w.heap.size + 1 + 1) ⟨zeroTab, ⟨zkd, zmak, zbn, znum, zoff, zrd, zwr, zap⟩, 0, rE⟩ := (RS2.out.setO ⟨zkd, zmak, zbn, znum, zoff, zrd, zwr, zap⟩).setE rE
      have Q3 := Lib.hid (Q2.out.grown (w.heap.size + 1 + 1) (.inr (.inr rfl)) hg)
      have RO3 : Hid (ResAt (((((((((w3.setCell ⟨(w.heap.size + 1 + 1), 128, none⟩ (.int .i64 zkd)).setCell ⟨(w.heap.size + 1 + 1), 129, none⟩ (.string zmak)).setCell ⟨(w.heap.size + 1 + 1), 130, none⟩ (.int .i64 zbn)).setCell ⟨(w.heap.size + 1 + 1), 131, none⟩ (.int .i64 znum)).setCell ⟨(w.heap.size + 1 + 1), 132, none⟩ (.int .i64 zoff)).setCell ⟨(w.heap.size + 1 + 1), 133, none⟩ (.bool zrd)).setCell ⟨(w.heap.size + 1 + 1), 134, none⟩ (.bool zwr)).setCell ⟨(w.heap.size + 1 + 1), 135, none⟩ (.bool zap)).setCell ⟨(w.heap.size + 1 + 1), 137, none⟩ (.int .i64 rE)) (w.heap.size + 1) (errD 0)) := RO2.out.kept (hg.block _ RO2.out.1.lt (by simp))
      have RS3 := Lib.hid hr
      clear hg hr Q2 RO2 RS2
      go_upto_region 25 with fail
      obtain ⟨wy, hwy⟩ : ∃ wy, (((((((((w3.setCell ⟨(w.heap.size + 1 + 1), 128, none⟩ (.int .i64 zkd)).setCell ⟨(w.heap.size + 1 + 1), 129, none⟩ (.string zmak)).setCell ⟨(w.heap.size + 1 + 1), 130, none⟩ (.int .i64 zbn)).setCell ⟨(w.heap.size + 1 + 1), 131, none⟩ (.int .i64 znum)).setCell ⟨(w.heap.size + 1 + 1), 132, none⟩ (.int .i64 zoff)).setCell ⟨(w.heap.size + 1 + 1), 133, none⟩ (.bool zrd)).setCell ⟨(w.heap.size + 1 + 1), 134, none⟩ (.bool zwr)).setCell ⟨(w.heap.size + 1 + 1), 135, none⟩ (.bool zap)).setCell ⟨(w.heap.size + 1 + 1), 137, none⟩ (.int .i64 rE)) = wy := ⟨_, rfl⟩
      rw [hwy] at Q3 RO3 RS3 ⊢
      clear hwy
      clear s0 u0 s1 u1 s2 u2 s3 u3 s4 u4 s5 u5 s6 u6 s7 u7 s8 u8 s9 u9
      go_wp2
      refine wp_load_res _ (by rfl) (w.heap.size + 1 + 1) (by rfl) RS3.out ?_
      have hst := RO3.out.store (r' := ⟨zeroTab, ⟨zkd, zmak, zbn, znum, zoff, zrd, zwr, zap⟩, 0, rE⟩) rfl
      have hsz : (resC ⟨zeroTab, ⟨zkd, zmak, zbn, znum, zoff, zrd, zwr, zap⟩, 0, rE⟩).toArray.size = 138 := by rw [List.size_toArray, resC_len rfl]
      have HF : Hid (ResAt (wy.setRow (w.heap.size + 1) (resC ⟨zeroTab, ⟨zkd, zmak, zbn, znum, zoff, zrd, zwr, zap⟩, 0, rE⟩).toArray) (w.heap.size + 1) ⟨zeroTab, ⟨zkd, zmak, zbn, znum, zoff, zrd, zwr, zap⟩, 0, rE⟩) := RO3.out.setRow rfl
      have HQ := Lib.hid ((Q3.out.grown (w.heap.size + 1) (.inr (.inl rfl)) (grown_setRow wy (w.heap.size + 1) (resC ⟨zeroTab, ⟨zkd, zmak, zbn, znum, zoff, zrd, zwr, zap⟩, 0, rE⟩).toArray)).post (resDV ⟨zeroTab, ⟨zkd, zmak, zbn, znum, zoff, zrd, zwr, zap⟩, 0, rE⟩))
      unfold resDV
      go_wp2
      refine bodyPost_ret (v := resDV ⟨zeroTab, ⟨zkd, zmak, zbn, znum, zoff, zrd, zwr, zap⟩, 0, rE⟩) (results_res rfl _ _ (w.heap.size + 1) (by rfl) HF.out) rfl ?_
      rw [HP.out]
      exact HQ.out
    · have hmi : (kd : Int) % 11 = 7 := by omega
      have HP : Hid ((pTree ⟨kd, who, tw, fd, n, ⟨okd, omak, obn, onum, ooff, ord, owr, oap⟩⟩).run V = (dOne nm (closeF fd)).run V) := by
        show _ = _
        rw [pT7 (o := ⟨kd, who, tw, fd, n, ⟨okd, omak, obn, onum, ooff, ord, owr, oap⟩⟩) hm]
        dsimp only
        rw [HJ.out.2.2]
      have hsh := sh_close V nm fd
      obtain ⟨⟨V9, ⟨rT, rO, rN, rE⟩⟩, hp⟩ : ∃ p, (dOne nm (closeF fd)).run V = p := ⟨_, rfl⟩
      rw [hp] at hsh HP
      obtain ⟨e1, e3⟩ := hsh
      dsimp only at e1 e3
      subst e1 e3
      obtain ⟨zkd, zmak, zbn, znum, zoff, zrd, zwr, zap⟩ := rO
      have Hp := Lib.hid hp
      clear hp
      have hc := qdClose Q1.out.s nm Hnz.out fd hlen
      rw [Hp.out] at hc
      dsimp only at hc
      have HC := Lib.hid hc
      clear hc
      go_wp2_with fail
      (with_reducible refine HC.out.mono ?_)
      rintro r w3 ⟨rfl, s3, hk⟩
      clear HC b0 b1 b2 b3 b4 b5 b6 b7 b8 b9 b10 b11 b12
      have Q2 := Lib.hid (Q1.out.step s3 hk)
      have RO2 := Lib.hid (RO1.out.kept (hk _ (.inr (.inr (.inl rfl)))))
      have RS2 := Lib.hid (RS1.out.kept (hk _ (.inr (.inr (.inr rfl)))))
      clear s3 hk Q1 RO1 RS1
      have s0 := RS2.out.1.cell (resC_at RS2.out.2 (j := 0) rfl)
      have s1 := RS2.out.1.cell (resC_at RS2.out.2 (j := 1) rfl)
      have s2 := RS2.out.1.cell (resC_at RS2.out.2 (j := 2) rfl)
      have s3 := RS2.out.1.cell (resC_at RS2.out.2 (j := 3) rfl)
      have s4 := RS2.out.1.cell (resC_at RS2.out.2 (j := 4) rfl)
      have s5 := RS2.out.1.cell (resC_at RS2.out.2 (j := 5) rfl)
      have s6 := RS2.out.1.cell (resC_at RS2.out.2 (j := 6) rfl)
      have s7 := RS2.out.1.cell (resC_at RS2.out.2 (j := 7) rfl)
      have s8 := RS2.out.1.cell (resC_at RS2.out.2 (j := 8) rfl)
      have s9 := RS2.out.1.cell (resC_at RS2.out.2 (j := 9) rfl)
      have u0 := RS2.out.free 128
      have u1 := RS2.out.free 129
      have u2 := RS2.out.free 130
      have u3 := RS2.out.free 131
      have u4 := RS2.out.free 132
      have u5 := RS2.out.free 133
      have u6 := RS2.out.free 134
      have u7 := RS2.out.free 135
      have u8 := RS2.out.free 136
      have u9 := RS2.out.free 137
      dsimp only [opnA]
      have hg : w3.grownBy (((((((((w3.setCell ⟨(w.heap.size + 1 + 1), 128, none⟩ (.int .i64 zkd)).setCell ⟨(w.heap.size + 1 + 1), 129, none⟩ (.string zmak)).setCell ⟨(w.heap.size + 1 + 1), 130, none⟩ (.int .i64 zbn)).setCell ⟨(w.heap.size + 1 + 1), 131, none⟩ (.int .i64 znum)).setCell ⟨(w.heap.size + 1 + 1), 132, none⟩ (.int .i64 zoff)).setCell ⟨(w.heap.size + 1 + 1), 133, none⟩ (.bool zrd)).setCell ⟨(w.heap.size + 1 + 1), 134, none⟩ (.bool zwr)).setCell ⟨(w.heap.size + 1 + 1), 135, none⟩ (.bool zap)).setCell ⟨(w.heap.size + 1 + 1), 137, none⟩ (.int .i64 rE)) (some (w.heap.size + 1 + 1)) := grown_trans (grown_set8 _ _ _ _ _ _ _ _ _ _ _ _ _ _ _ _ _ _) (grown_setCell _ _ _ _)
      have hr : ResAt (((((((((w3.setCell ⟨(w.heap.size + 1 + 1), 128, none⟩ (.int .i64 zkd)).setCell ⟨(w.heap.size + 1 + 1), 129, none⟩ (.string zmak)).setCell ⟨(w.heap.size + 1 + 1), 130, none⟩ (.int .i64 zbn)).setCell ⟨(w.heap.size + 1 + 1), 131, none⟩ (.int .i64 znum)).setCell ⟨(w.heap.size + 1 + 1), 132, none⟩ (.int .i64 zoff)).setCell ⟨(w.heap.size + 1 + 1), 133, none⟩ (.bool zrd)).setCell ⟨(w.heap.size + 1 + 1), 134, none⟩ (.bool zwr)).setCell ⟨(w.heap.size + 1 + 1), 135, none⟩ (.bool zap)).setCell ⟨(w.heap.size + 1 + 1), 137, none⟩ (.int .i64 rE)) (w.heap.size + 1 + 1) ⟨zeroTab, ⟨zkd, zmak, zbn, znum, zoff, zrd, zwr, zap⟩, 0, rE⟩ := (RS2.out.setO ⟨zkd, zmak, zbn, znum, zoff, zrd, zwr, zap⟩).setE rE
      have Q3 := Lib.hid (Q2.out.grown (w.heap.size + 1 + 1) (.inr (.inr rfl)) hg)
      have RO3 : Hid (ResAt (((((((((w3.setCell ⟨(w.heap.size + 1 + 1), 128, none⟩ (.int .i64 zkd)).setCell ⟨(w.heap.size + 1 + 1), 129, none⟩ (.string zmak)).setCell ⟨(w.heap.size + 1 + 1), 130, none⟩ (.int .i64 zbn)).setCell ⟨(w.heap.size + 1 + 1), 131, none⟩ (.int .i64 znum)).setCell ⟨(w.heap.size + 1 + 1), 132, none⟩ (.int .i64 zoff)).setCell ⟨(w.heap.size + 1 + 1), 133, none⟩ (.bool zrd)).setCell ⟨(w.heap.size + 1 + 1), 134, none⟩ (.bool zwr)).setCell ⟨(w.heap.size + 1 + 1), 135, none⟩ (.bool zap)).setCell ⟨(w.heap.size + 1 + 1), 137, none⟩ (.int .i64 rE)) (w.heap.size + 1) (errD 0)) := RO2.out.kept (hg.block _ RO2.out.1.lt (by simp))
      have RS3 := Lib.hid hr
      clear hg hr Q2 RO2 RS2
      go_upto_region 25 with fail
      obtain ⟨wy, hwy⟩ : ∃ wy, (((((((((w3.setCell ⟨(w.heap.size + 1 + 1), 128, none⟩ (.int .i64 zkd)).setCell ⟨(w.heap.size + 1 + 1), 129, none⟩ (.string zmak)).setCell ⟨(w.heap.size + 1 + 1), 130, none⟩ (.int .i64 zbn)).setCell ⟨(w.heap.size + 1 + 1), 131, none⟩ (.int .i64 znum)).setCell ⟨(w.heap.size + 1 + 1), 132, none⟩ (.int .i64 zoff)).setCell ⟨(w.heap.size + 1 + 1), 133, none⟩ (.bool zrd)).setCell ⟨(w.heap.size + 1 + 1), 134, none⟩ (.bool zwr)).setCell ⟨(w.heap.size + 1 + 1), 135, none⟩ (.bool zap)).setCell ⟨(w.heap.size + 1 + 1), 137, none⟩ (.int .i64 rE)) = wy := ⟨_, rfl⟩
      rw [hwy] at Q3 RO3 RS3 ⊢
      clear hwy
      clear s0 u0 s1 u1 s2 u2 s3 u3 s4 u4 s5 u5 s6 u6 s7 u7 s8 u8 s9 u9
      go_wp2
      refine wp_load_res _ (by rfl) (w.heap.size + 1 + 1) (by rfl) RS3.out ?_
      have hst := RO3.out.store (r' := ⟨zeroTab, ⟨zkd, zmak, zbn, znum, zoff, zrd, zwr, zap⟩, 0, rE⟩) rfl
      have hsz : (resC ⟨zeroTab, ⟨zkd, zmak, zbn, znum, zoff, zrd, zwr, zap⟩, 0, rE⟩).toArray.size = 138 := by rw [List.size_toArray, resC_len rfl]
      have HF : Hid (ResAt (wy.setRow (w.heap.size + 1) (resC ⟨zeroTab, ⟨zkd, zmak, zbn, znum, zoff, zrd, zwr, zap⟩, 0, rE⟩).toArray) (w.heap.size + 1) ⟨zeroTab, ⟨zkd, zmak, zbn, znum, zoff, zrd, zwr, zap⟩, 0, rE⟩) := RO3.out.setRow rfl
      have HQ := Lib.hid ((Q3.out.grown (w.heap.size + 1) (.inr (.inl rfl)) (grown_setRow wy (w.heap.size + 1) (resC ⟨zeroTab, ⟨zkd, zmak, zbn, znum, zoff, zrd, zwr, zap⟩, 0, rE⟩).toArray)).post (resDV ⟨zeroTab, ⟨zkd, zmak, zbn, znum, zoff, zrd, zwr, zap⟩, 0, rE⟩))
      unfold resDV
      go_wp2
      refine bodyPost_ret (v := resDV ⟨zeroTab, ⟨zkd, zmak, zbn, znum, zoff, zrd, zwr, zap⟩, 0, rE⟩) (results_res rfl _ _ (w.heap.size + 1) (by rfl) HF.out) rfl ?_
      rw [HP.out]
      exact HQ.out
    · have hmi : (kd : Int) % 11 = 8 := by omega
      have HP : Hid ((pTree ⟨kd, who, tw, fd, n, ⟨okd, omak, obn, onum, ooff, ord, owr, oap⟩⟩).run V = (dOne nm (moveF fd fun _ => n)).run V) := by
        show _ = _
        rw [pT8 (o := ⟨kd, who, tw, fd, n, ⟨okd, omak, obn, onum, ooff, ord, owr, oap⟩⟩) hm]
        dsimp only
        rw [HJ.out.2.2]
      have hsh := sh_move V nm fd (fun _ => n)
      obtain ⟨⟨V9, ⟨rT, rO, rN, rE⟩⟩, hp⟩ : ∃ p, (dOne nm (moveF fd fun _ => n)).run V = p := ⟨_, rfl⟩
      rw [hp] at hsh HP
      obtain ⟨e1, e2, e3⟩ := hsh
      dsimp only at e1 e2 e3
      subst e1 e2 e3
      have Hp := Lib.hid hp
      clear hp
      have hc := qdSeek Q1.out.s nm Hnz.out fd n hlen
      rw [Hp.out] at hc
      dsimp only at hc
      have HC := Lib.hid hc
      clear hc
      go_wp2_with fail
      (with_reducible refine HC.out.mono ?_)
      rintro r w3 ⟨rfl, s3, hk⟩
      clear HC b0 b1 b2 b3 b4 b5 b6 b7 b8 b9 b10 b11 b12
      have Q2 := Lib.hid (Q1.out.step s3 hk)
      have RO2 := Lib.hid (RO1.out.kept (hk _ (.inr (.inr (.inl rfl)))))
      have RS2 := Lib.hid (RS1.out.kept (hk _ (.inr (.inr (.inr rfl)))))
      clear s3 hk Q1 RO1 RS1
      have s9 := RS2.out.1.cell (resC_at RS2.out.2 (j := 9) rfl)
      have u9 := RS2.out.free 137
      have hg : w3.grownBy (w3.setCell ⟨(w.heap.size + 1 + 1), 137, none⟩ (.int .i64 rE)) (some (w.heap.size + 1 + 1)) := grown_setCell _ _ _ _
      have hr : ResAt (w3.setCell ⟨(w.heap.size + 1 + 1), 137, none⟩ (.int .i64 rE)) (w.heap.size + 1 + 1) ⟨zeroTab, zeroO, 0, rE⟩ := RS2.out.setE rE
      have Q3 := Lib.hid (Q2.out.grown (w.heap.size + 1 + 1) (.inr (.inr rfl)) hg)
      have RO3 : Hid (ResAt (w3.setCell ⟨(w.heap.size + 1 + 1), 137, none⟩ (.int .i64 rE)) (w.heap.size + 1) (errD 0)) := RO2.out.kept (hg.block _ RO2.out.1.lt (by simp))
      have RS3 := Lib.hid hr
      clear hg hr Q2 RO2 RS2
      go_upto_region 25 with fail
      obtain ⟨wy, hwy⟩ : ∃ wy, (w3.setCell ⟨(w.heap.size + 1 + 1), 137, none⟩ (.int .i64 rE)) = wy := ⟨_, rfl⟩
      rw [hwy] at Q3 RO3 RS3 ⊢
      clear hwy
      clear s9 u9
      go_wp2
      refine wp_load_res _ (by rfl) (w.heap.size + 1 + 1) (by rfl) RS3.out ?_
      have hst := RO3.out.store (r' := ⟨zeroTab, zeroO, 0, rE⟩) rfl
      have hsz : (resC ⟨zeroTab, zeroO, 0, rE⟩).toArray.size = 138 := by rw [List.size_toArray, resC_len rfl]
      have HF : Hid (ResAt (wy.setRow (w.heap.size + 1) (resC ⟨zeroTab, zeroO, 0, rE⟩).toArray) (w.heap.size + 1) ⟨zeroTab, zeroO, 0, rE⟩) := RO3.out.setRow rfl
      have HQ := Lib.hid ((Q3.out.grown (w.heap.size + 1) (.inr (.inl rfl)) (grown_setRow wy (w.heap.size + 1) (resC ⟨zeroTab, zeroO, 0, rE⟩).toArray)).post (resDV ⟨zeroTab, zeroO, 0, rE⟩))
      unfold resDV
      go_wp2
      refine bodyPost_ret (v := resDV ⟨zeroTab, zeroO, 0, rE⟩) (results_res rfl _ _ (w.heap.size + 1) (by rfl) HF.out) rfl ?_
      rw [HP.out]
      exact HQ.out
    · have hmi : (kd : Int) % 11 = 9 := by omega
      have HP : Hid ((pTree ⟨kd, who, tw, fd, n, ⟨okd, omak, obn, onum, ooff, ord, owr, oap⟩⟩).run V = (dOne nm (moveF fd (advG n))).run V) := by
        show _ = _
        rw [pT9 (o := ⟨kd, who, tw, fd, n, ⟨okd, omak, obn, onum, ooff, ord, owr, oap⟩⟩) hm]
        dsimp only
        rw [HJ.out.2.2]
      have hsh := sh_move V nm fd (advG n)
      obtain ⟨⟨V9, ⟨rT, rO, rN, rE⟩⟩, hp⟩ : ∃ p, (dOne nm (moveF fd (advG n))).run V = p := ⟨_, rfl⟩
      rw [hp] at hsh HP
      obtain ⟨e1, e2, e3⟩ := hsh
      dsimp only at e1 e2 e3
      subst e1 e2 e3
      have Hp := Lib.hid hp
      clear hp
      have hc := qdAdvance Q1.out.s nm Hnz.out fd n hd hlen
      rw [Hp.out] at hc
      dsimp only at hc
      have HC := Lib.hid hc
      clear hc
      go_wp2_with fail
      (with_reducible refine HC.out.mono ?_)
      rintro r w3 ⟨rfl, s3, hk⟩
      clear HC b0 b1 b2 b3 b4 b5 b6 b7 b8 b9 b10 b11 b12
      have Q2 := Lib.hid (Q1.out.step s3 hk)
      have RO2 := Lib.hid (RO1.out.kept (hk _ (.inr (.inr (.inl rfl)))))
      have RS2 := Lib.hid (RS1.out.kept (hk _ (.inr (.inr (.inr rfl)))))
      clear s3 hk Q1 RO1 RS1
      have s9 := RS2.out.1.cell (resC_at RS2.out.2 (j := 9) rfl)
      have u9 := RS2.out.free 137
      have hg : w3.grownBy (w3.setCell ⟨(w.heap.size + 1 + 1), 137, none⟩ (.int .i64 rE)) (some (w.heap.size + 1 + 1)) := grown_setCell _ _ _ _
      have hr : ResAt (w3.setCell ⟨(w.heap.size + 1 + 1), 137, none⟩ (.int .i64 rE)) (w.heap.size + 1 + 1) ⟨zeroTab, zeroO, 0, rE⟩ := RS2.out.setE rE
      have Q3 := Lib.hid (Q2.out.grown (w.heap.size + 1 + 1) (.inr (.inr rfl)) hg)
      have RO3 : Hid (ResAt (w3.setCell ⟨(w.heap.size + 1 + 1), 137, none⟩ (.int .i64 rE)) (w.heap.size + 1) (errD 0)) := RO2.out.kept (hg.block _ RO2.out.1.lt (by simp))
      have RS3 := Lib.hid hr
      clear hg hr Q2 RO2 RS2
      go_upto_region 25 with fail
      obtain ⟨wy, hwy⟩ : ∃ wy, (w3.setCell ⟨(w.heap.size + 1 + 1), 137, none⟩ (.int .i64 rE)) = wy := ⟨_, rfl⟩
      rw [hwy] at Q3 RO3 RS3 ⊢
      clear hwy
      clear s9 u9
      go_wp2
      refine wp_load_res _ (by rfl) (w.heap.size + 1 + 1) (by rfl) RS3.out ?_
      have hst := RO3.out.store (r' := ⟨zeroTab, zeroO, 0, rE⟩) rfl
      have hsz : (resC ⟨zeroTab, zeroO, 0, rE⟩).toArray.size = 138 := by rw [List.size_toArray, resC_len rfl]
      have HF : Hid (ResAt (wy.setRow (w.heap.size + 1) (resC ⟨zeroTab, zeroO, 0, rE⟩).toArray) (w.heap.size + 1) ⟨zeroTab, zeroO, 0, rE⟩) := RO3.out.setRow rfl
      have HQ := Lib.hid ((Q3.out.grown (w.heap.size + 1) (.inr (.inl rfl)) (grown_setRow wy (w.heap.size + 1) (resC ⟨zeroTab, zeroO, 0, rE⟩).toArray)).post (resDV ⟨zeroTab, zeroO, 0, rE⟩))
      unfold resDV
      go_wp2
      refine bodyPost_ret (v := resDV ⟨zeroTab, zeroO, 0, rE⟩) (results_res rfl _ _ (w.heap.size + 1) (by rfl) HF.out) rfl ?_
      rw [HP.out]
      exact HQ.out
    · have hmi : (kd : Int) % 11 = 10 := by omega
      have HP : Hid ((pTree ⟨kd, who, tw, fd, n, ⟨okd, omak, obn, onum, ooff, ord, owr, oap⟩⟩).run V = (dOne nm (dupF fd)).run V) := by
        show _ = _
        rw [pT10 (o := ⟨kd, who, tw, fd, n, ⟨okd, omak, obn, onum, ooff, ord, owr, oap⟩⟩) hm]
        dsimp only
        rw [HJ.out.2.2]
      have hsh := sh_dup V nm fd
      obtain ⟨⟨V9, ⟨rT, rO, rN, rE⟩⟩, hp⟩ : ∃ p, (dOne nm (dupF fd)).run V = p := ⟨_, rfl⟩
      rw [hp] at hsh HP
      obtain ⟨e1, e2⟩ := hsh
      dsimp only at e1 e2
      subst e1 e2
      have Hp := Lib.hid hp
      clear hp
      have hc := qdDup Q1.out.s nm Hnz.out fd hlen
      rw [Hp.out] at hc
      dsimp only at hc
      have HC := Lib.hid hc
      clear hc
      go_wp2_with fail
      (with_reducible refine HC.out.mono ?_)
      rintro r w3 ⟨rfl, s3, hk⟩
      clear HC b0 b1 b2 b3 b4 b5 b6 b7 b8 b9 b10 b11 b12
      have Q2 := Lib.hid (Q1.out.step s3 hk)
      have RO2 := Lib.hid (RO1.out.kept (hk _ (.inr (.inr (.inl rfl)))))
      have RS2 := Lib.hid (RS1.out.kept (hk _ (.inr (.inr (.inr rfl)))))
      clear s3 hk Q1 RO1 RS1
      have s8 := RS2.out.1.cell (resC_at RS2.out.2 (j := 8) rfl)
      have s9 := RS2.out.1.cell (resC_at RS2.out.2 (j := 9) rfl)
      have u8 := RS2.out.free 136
      have u9 := RS2.out.free 137
      have hg : w3.grownBy ((w3.setCell ⟨(w.heap.size + 1 + 1), 136, none⟩ (.int .i64 rN)).setCell ⟨(w.heap.size + 1 + 1), 137, none⟩ (.int .i64 rE)) (some (w.heap.size + 1 + 1)) := grown_trans (grown_setCell _ _ _ _) (grown_setCell _ _ _ _)
      have hr : ResAt ((w3.setCell ⟨(w.heap.size + 1 + 1), 136, none⟩ (.int .i64 rN)).setCell ⟨(w.heap.size + 1 + 1), 137, none⟩ (.int .i64 rE)) (w.heap.size + 1 + 1) ⟨zeroTab, zeroO, rN, rE⟩ := (RS2.out.setN rN).setE rE
      have Q3 := Lib.hid (Q2.out.grown (w.heap.size + 1 + 1) (.inr (.inr rfl)) hg)
      have RO3 : Hid (ResAt ((w3.setCell ⟨(w.heap.size + 1 + 1), 136, none⟩ (.int .i64 rN)).setCell ⟨(w.heap.size + 1 + 1), 137, none⟩ (.int .i64 rE)) (w.heap.size + 1) (errD 0)) := RO2.out.kept (hg.block _ RO2.out.1.lt (by simp))
      have RS3 := Lib.hid hr
      clear hg hr Q2 RO2 RS2
      go_upto_region 25 with fail
      obtain ⟨wy, hwy⟩ : ∃ wy, ((w3.setCell ⟨(w.heap.size + 1 + 1), 136, none⟩ (.int .i64 rN)).setCell ⟨(w.heap.size + 1 + 1), 137, none⟩ (.int .i64 rE)) = wy := ⟨_, rfl⟩
      rw [hwy] at Q3 RO3 RS3 ⊢
      clear hwy
      clear s8 u8 s9 u9
      go_wp2
      refine wp_load_res _ (by rfl) (w.heap.size + 1 + 1) (by rfl) RS3.out ?_
      have hst := RO3.out.store (r' := ⟨zeroTab, zeroO, rN, rE⟩) rfl
      have hsz : (resC ⟨zeroTab, zeroO, rN, rE⟩).toArray.size = 138 := by rw [List.size_toArray, resC_len rfl]
      have HF : Hid (ResAt (wy.setRow (w.heap.size + 1) (resC ⟨zeroTab, zeroO, rN, rE⟩).toArray) (w.heap.size + 1) ⟨zeroTab, zeroO, rN, rE⟩) := RO3.out.setRow rfl
      have HQ := Lib.hid ((Q3.out.grown (w.heap.size + 1) (.inr (.inl rfl)) (grown_setRow wy (w.heap.size + 1) (resC ⟨zeroTab, zeroO, rN, rE⟩).toArray)).post (resDV ⟨zeroTab, zeroO, rN, rE⟩))
      unfold resDV
      go_wp2
      refine bodyPost_ret (v := resDV ⟨zeroTab, zeroO, rN, rE⟩) (results_res rfl _ _ (w.heap.size + 1) (by rfl) HF.out) rfl ?_
      rw [HP.out]
      exact HQ.out
end
end Go.Proofs.YtfchfjipkggnkaaGreatDoor
