/- DescriptorErrors: the walk. (printed by wip/gen_dscer.py) -/
import Derived.Test.YtfchfjipkggnkaaDoorDscPn
import Derived.Test.YtfchfjipkggnkaaDoorDscCu
import Derived.Test.YtfchfjipkggnkaaDoorDscU
import Derived.Deep.QuietTactic
import Derived.BigQuiet
import Derived.WalkSmall
namespace Go.Proofs.YtfchfjipkggnkaaDoor
open Go.RowKit
attribute [local go_sem ↓] Go.wp_at_zero Go.wp_at_succ

theorem field_err (w : World) : (Instr.field 62 (resDV (errD 1)) 3).run Tryd.prog w = .ok (.int .i64 1) w := field_res w rfl
attribute [local go_sem ↓] field_err
/-- A new view of the empty state. -/
theorem qEmpty (w : World) (hu : Usages w) :
    Calls Tryd.prog 16 #[] w fun r w1 => r = .returned (.pointer (some ⟨w.heap.size, 0, none⟩)) ∧ Calls Tryd.prog 15 #[.pointer (some ⟨w.heap.size, 0, none⟩)] w1 fun r w2 => r = .returned (.pointer (some ⟨w.heap.size + 3, 0, none⟩)) ∧ QM w w2 (w.heap.size + 3) 0 ⟨fun _ => none, [], []⟩ (fun _ => False) := by
  refine (stateNew_any w).mono ?_
  rintro r w1 ⟨rfl, rfl⟩
  refine ⟨rfl, ?_⟩
  have hb1 : Below w.heap.size w (w.alloc (.cells #[.pointer none] 89)) := (Below.refl _ _).alloc (Nat.le_refl _) _
  have hbn := baseN_empty w
  have hsz : (w.alloc (.cells #[.pointer none] 89)).heap.size = w.heap.size + 1 := by simp
  refine (qmNew (w0 := w) (hu.below hb1 hu.pos) hb1 hbn).mono ?_
  rintro r w2 ⟨rfl, s, -⟩
  rw [hsz] at s
  exact ⟨by rw [hsz], s⟩
def V0D : AV := ⟨fun _ => none, [], []⟩
/-- What a name that is not valid gives. -/
theorem bad_make {V : AV} {who : ByteArray} (h : validB who = false) : (dMake who).run V = (V, errD 12) := by rw [dMake_run, if_pos h]
theorem bad_add {V : AV} {who : ByteArray} (h : validB who = false) : (dAdd who (fileO 1)).run V = (V, errD 12) := by
  unfold dAdd
  rw [if_neg (by rw [check_file (by decide) (by decide)]; decide), dOne_run]
  have e1 : allR V who = (zeroTab, 12) := if_pos h
  have e2 : allV V who = V := if_pos h
  rw [e1, e2]
  rfl
theorem bad_all {V : AV} {who : ByteArray} (h : validB who = false) : allV V who = V ∧ allR V who = (zeroTab, 12) := ⟨if_pos h, if_pos h⟩
/-- A first table, a second try, a value set. -/
def V1D (who : ByteArray) : AV := addV (avSeen V0D (ofTab who)) (chgD who (some zeroTab))
theorem new_make {who : ByteArray} (h : validB who = true) : (dMake who).run V0D = (V1D who, errD 0) := by
  rw [dMake_run, if_neg (by rw [h]; decide)]
  exact if_neg (show ¬ (false = true) from fun h => nomatch h)
theorem more_make {who : ByteArray} (h : validB who = true) : (dMake who).run (V1D who) = (avSeen (V1D who) (ofTab who), errD 13) := by
  rw [dMake_run, if_neg (by rw [h]; decide)]
  refine if_pos ?_
  unfold V1D
  rw [addV_get]
  exact congrArg Prod.snd (if_pos (c := ofTab who = (chgD who (some zeroTab)).name) rfl)
def V3D (who raw : ByteArray) : AV := ⟨(avSeen (V1D who) (ofTab who)).base, (avSeen (V1D who) (ofTab who)).reads, (avSeen (V1D who) (ofTab who)).calls ++ [⟨ofTab who, raw, false⟩]⟩
theorem raw_all {who raw : ByteArray} (h : validB who = true) : allR (V3D who raw) who = decD raw := by
  have e1 : allR (V3D who raw) who = tabR (avGet (V3D who raw) (ofTab who)) := if_neg (by rw [h]; decide)
  have e2 : avGet (V3D who raw) (ofTab who) = (raw, true) := by
    have := addV_get (avSeen (V1D who) (ofTab who)) ⟨ofTab who, raw, false⟩ (ofTab who)
    rw [if_pos rfl] at this
    exact this
  rw [e1, e2]
  exact if_neg (show ¬ (true = false) from fun h => nomatch h)
theorem v1_len (who : ByteArray) : (V1D who).calls.length = 1 := by
  unfold V1D
  show ((avSeen V0D (ofTab who)).calls ++ [_]).length = _
  rw [avSeen_cal]
  rfl
theorem opC_cut (kd wo tw : Nat) (fd n : Int) (oo : OpnT) (o' : OpnT) : ((((((((opC ⟨kd, wo, tw, fd, n, oo⟩).set 5 (.int .i64 o'.kd)).set 6 (.string o'.mak)).set 7 (.int .i64 o'.bn)).set 8 (.int .i64 o'.num)).set 9 (.int .i64 o'.off)).set 10 (.bool o'.rd)).set 11 (.bool o'.wr)).set 12 (.bool o'.ap) = opC ⟨kd, wo, tw, fd, n, o'⟩ := rfl
set_option linter.unusedSimpArgs false in
set_option maxRecDepth 100000 in
set_option maxHeartbeats 12800000 in
theorem derrors_in (kd wo tw : Nat) (fd n okd : Int) (omak : ByteArray) (obn onum ooff : Int) (ord owr oap : Bool) (who raw wn rn : ByteArray) (w : World) (hk : kd < 256) (hw : wo < 256) (ht : tw < 256) (hm : omak.size ≤ 9223372036854775807) (hu : Usages w)
    (hc1 : ((80 : Int) < (who.size : Int) ∧ who.extract 0 80 = wn) ∨ (¬ (80 : Int) < (who.size : Int) ∧ who = wn)) (hc2 : ((100 : Int) < (raw.size : Int) ∧ raw.extract 0 100 = rn) ∨ (¬ (100 : Int) < (raw.size : Int) ∧ raw = rn)) :
    Calls Tryd.prog 7 #[.agg #[.int .u8 kd, .int .u8 wo, .int .u8 tw, .int .i64 fd, .int .i64 n, .int .i64 okd, .string omak, .int .i64 obn, .int .i64 onum, .int .i64 ooff, .bool ord, .bool owr, .bool oap], .string who, .string raw] w fun r w' => r = .returned (.bool true) ∧ Below w.heap.size w w' := by
  have HU : Hid (∀ W, Below w.heap.size w W → Usages W) := fun W h => hu.below h hu.pos
  have Hm := Lib.hid hm
  have Hc1 := Lib.hid hc1
  have Hc2 := Lib.hid hc2
  clear hu hm hc1 hc2
  have Hwn : Hid (wn.size ≤ 80) := by
    show _ ≤ _
    rcases Hc1.out with ⟨h1, h2⟩ | ⟨h1, h2⟩
    · rw [← h2, ByteArray.size_extract]; omega
    · rw [← h2]; omega
  have Hrn : Hid (rn.size ≤ 100) := by
    show _ ≤ _
    rcases Hc2.out with ⟨h1, h2⟩ | ⟨h1, h2⟩
    · rw [← h2, ByteArray.size_extract]; omega
    · rw [← h2]; omega
  have HB0 : Hid (Below w.heap.size w (w.alloc (.cells #[.int .u8 kd, .int .u8 wo, .int .u8 tw, .int .i64 fd, .int .i64 n, .int .i64 okd, .string omak, .int .i64 obn, .int .i64 onum, .int .i64 ooff, .bool ord, .bool owr, .bool oap] 60))) := (Below.refl _ _).alloc (Nat.le_refl _) _
  have B0 : Hid (RowIs (w.alloc (.cells #[.int .u8 kd, .int .u8 wo, .int .u8 tw, .int .i64 fd, .int .i64 n, .int .i64 okd, .string omak, .int .i64 obn, .int .i64 onum, .int .i64 ooff, .bool ord, .bool owr, .bool oap] 60)) w.heap.size 60 (opC ⟨kd, wo, tw, fd, n, ⟨okd, omak, obn, onum, ooff, ord, owr, oap⟩⟩)) := new_row w _ _
  go_enter Tryd.func7, Tryd.ntmps7
  go_upto_region 1 with fail
  obtain ⟨w1, hw1⟩ : ∃ w1, (w.alloc (.cells #[.int .u8 kd, .int .u8 wo, .int .u8 tw, .int .i64 fd, .int .i64 n, .int .i64 okd, .string omak, .int .i64 obn, .int .i64 onum, .int .i64 ooff, .bool ord, .bool owr, .bool oap] 60)) = w1 := ⟨_, rfl⟩
  rw [hw1] at HB0 B0 ⊢
  clear hw1
  go_cut [1, 2] (fun av bv wx => av = .string wn ∧ bv = .string rn ∧ Hid (Below w1.heap.size w1 wx))
  case first =>
    clear B0 HU Hwn Hrn Hm HB0
    rcases Hc1.out with ⟨h1, e1⟩ | ⟨h1, e1⟩ <;> rcases Hc2.out with ⟨h2, e2⟩ | ⟨h2, e2⟩
    all_goals
      clear Hc1 Hc2
      have E1 := Lib.hid e1
      have E2 := Lib.hid e2
      clear e1 e2
      go_quiet (fail)
      go_wp2
      go_meet
      exact ⟨by first | rw [E1.out] | (rw [← E1.out]; simp), by first | rw [E2.out] | (rw [← E2.out]; simp), ⟨rfl, rfl, rfl, Nat.le_refl _, fun _ _ => rfl⟩⟩
  case rest =>
    obtain ⟨rfl, rfl, Hb⟩ := hcut
    have HB1 : Hid (Below w.heap.size w wc) := HB0.out.trans (Hb.out.mono HB0.out.size)
    have B1 := Lib.hid (B0.out.later Hb.out)
    clear Hb HB0 B0 Hc1 Hc2
    have b5 := B1.out.cell (i := 5) rfl
    have b6 := B1.out.cell (i := 6) rfl
    have b7 := B1.out.cell (i := 7) rfl
    have b8 := B1.out.cell (i := 8) rfl
    have b9 := B1.out.cell (i := 9) rfl
    have b10 := B1.out.cell (i := 10) rfl
    have b11 := B1.out.cell (i := 11) rfl
    have b12 := B1.out.cell (i := 12) rfl
    go_wp2_with fail
    refine (cut31_any okd omak obn onum ooff ord owr oap _ Hm.out).mono ?_
    rintro r w2 ⟨rfl, hb⟩
    clear b5 b6 b7 b8 b9 b10 b11 b12
    have HB2 : Hid (Below w.heap.size w w2) := HB1.out.trans (hb.mono HB1.out.size)
    have B2 := Lib.hid (B1.out.later hb)
    clear hb HB1 B1
    have b5 := B2.out.cell (i := 5) rfl
    have b6 := B2.out.cell (i := 6) rfl
    have b7 := B2.out.cell (i := 7) rfl
    have b8 := B2.out.cell (i := 8) rfl
    have b9 := B2.out.cell (i := 9) rfl
    have b10 := B2.out.cell (i := 10) rfl
    have b11 := B2.out.cell (i := 11) rfl
    have b12 := B2.out.cell (i := 12) rfl
    have q5 := B2.out.free 5
    have q6 := B2.out.free 6
    have q7 := B2.out.free 7
    have q8 := B2.out.free 8
    have q9 := B2.out.free 9
    have q10 := B2.out.free 10
    have q11 := B2.out.free 11
    have q12 := B2.out.free 12
    have B3 : Hid (RowIs ((((((((w2.setCell ⟨w.heap.size, 5, none⟩ (.int .i64 okd)).setCell ⟨w.heap.size, 6, none⟩ (.string (cutB omak 80))).setCell ⟨w.heap.size, 7, none⟩ (.int .i64 obn)).setCell ⟨w.heap.size, 8, none⟩ (.int .i64 onum)).setCell ⟨w.heap.size, 9, none⟩ (.int .i64 ooff)).setCell ⟨w.heap.size, 10, none⟩ (.bool ord)).setCell ⟨w.heap.size, 11, none⟩ (.bool owr)).setCell ⟨w.heap.size, 12, none⟩ (.bool oap)) w.heap.size 60 (opC ⟨kd, wo, tw, fd, n, ⟨okd, cutB omak 80, obn, onum, ooff, ord, owr, oap⟩⟩)) := (((((((B2.out.set 5 _).set 6 _).set 7 _).set 8 _).set 9 _).set 10 _).set 11 _).set 12 _
    have HB3 : Hid (Below w.heap.size w ((((((((w2.setCell ⟨w.heap.size, 5, none⟩ (.int .i64 okd)).setCell ⟨w.heap.size, 6, none⟩ (.string (cutB omak 80))).setCell ⟨w.heap.size, 7, none⟩ (.int .i64 obn)).setCell ⟨w.heap.size, 8, none⟩ (.int .i64 onum)).setCell ⟨w.heap.size, 9, none⟩ (.int .i64 ooff)).setCell ⟨w.heap.size, 10, none⟩ (.bool ord)).setCell ⟨w.heap.size, 11, none⟩ (.bool owr)).setCell ⟨w.heap.size, 12, none⟩ (.bool oap))) := HB2.out.grown (grown_set8 _ _ _ _ _ _ _ _ _ _ _ _ _ _ _ _ _ _) HB2.out.size (fun k hk => by cases hk; exact Nat.le_refl _)
    go_upto_region 4 with fail
    obtain ⟨w3, hw3⟩ : ∃ w3, ((((((((w2.setCell ⟨w.heap.size, 5, none⟩ (.int .i64 okd)).setCell ⟨w.heap.size, 6, none⟩ (.string (cutB omak 80))).setCell ⟨w.heap.size, 7, none⟩ (.int .i64 obn)).setCell ⟨w.heap.size, 8, none⟩ (.int .i64 onum)).setCell ⟨w.heap.size, 9, none⟩ (.int .i64 ooff)).setCell ⟨w.heap.size, 10, none⟩ (.bool ord)).setCell ⟨w.heap.size, 11, none⟩ (.bool owr)).setCell ⟨w.heap.size, 12, none⟩ (.bool oap)) = w3 := ⟨_, rfl⟩
    rw [hw3] at HB3 B3 ⊢
    clear hw3 HB2 B2 b5 b6 b7 b8 b9 b10 b11 b12 q5 q6 q7 q8 q9 q10 q11 q12
    have HK := Lib.hid (known31_any _ (HU.out _ HB3.out))
    go_wp2_with fail
    refine HK.out.mono ?_
    rintro r w4 ⟨rfl, hb⟩
    have HB4 : Hid (Below w.heap.size w w4) := HB3.out.trans (hb.mono HB3.out.size)
    have B4 := Lib.hid (B3.out.later hb)
    clear hb HB3 B3 HK
    have b0 := B4.out.cell (i := 0) rfl
    have b1 := B4.out.cell (i := 1) rfl
    have b2 := B4.out.cell (i := 2) rfl
    have b3 := B4.out.cell (i := 3) rfl
    have b4 := B4.out.cell (i := 4) rfl
    have b5 := B4.out.cell (i := 5) rfl
    have b6 := B4.out.cell (i := 6) rfl
    have b7 := B4.out.cell (i := 7) rfl
    have b8 := B4.out.cell (i := 8) rfl
    have b9 := B4.out.cell (i := 9) rfl
    have b10 := B4.out.cell (i := 10) rfl
    have b11 := B4.out.cell (i := 11) rfl
    have b12 := B4.out.cell (i := 12) rfl
    go_wp2_with fail
    refine (nPerform_in kd wo tw fd n okd (cutB omak 80) obn onum ooff ord owr oap _ hk hw ht).mono ?_
    rintro r w5 ⟨rfl, hb⟩
    have HB5 : Hid (Below w.heap.size w w5) := HB4.out.trans (hb.mono HB4.out.size)
    clear hb HB4 B4 b0 b1 b2 b3 b4 b5 b6 b7 b8 b9 b10 b11 b12
    have HN := Lib.hid (qEmpty w5 (HU.out _ HB5.out))
    go_wp2_with fail
    refine HN.out.mono ?_
    rintro r w6 ⟨rfl, hnew⟩
    have Hnew := Lib.hid hnew
    clear hnew HN
    go_wp2_with fail
    refine Hnew.out.mono ?_
    rintro r w7 ⟨rfl, s0⟩
    have S0 : Hid (QM w5 w7 (w5.heap.size + 3) 0 V0D (fun _ => False)) := s0
    clear s0 Hnew
    have Hwz : Hid (wn.size ≤ 70368744177664) := Nat.le_trans Hwn.out (by decide)
    go_wp2_with fail
    refine (qdMake S0.out wn Hwz.out (by decide)).mono ?_
    rintro r w8 ⟨rfl, s1, -⟩
    clear S0
    have FIN : Hid (∀ W V b, QM w5 W b 0 V (fun _ => False) → Below w.heap.size w W) := fun W V b s => HB5.out.trans (s.below.mono HB5.out.size)
    clear HB5
    cases hv : validB wn with
    | false =>
      have Hv := Lib.hid hv
      rw [bad_make hv] at s1 ⊢
      have S1 := Lib.hid s1
      clear s1 hv
      go_wp2_with fail
      refine (valid_is wn _ Hwz.out Hv.out _).mono ?_
      rintro r w9 ⟨rfl, hb⟩
      have S2 := Lib.hid (S1.out.later hb)
      clear hb S1
      go_wp2_with fail
      refine (qdAll S2.out wn Hwz.out).mono ?_
      rintro r w10 ⟨rfl, s3, -⟩
      rw [(bad_all Hv.out).1] at s3
      rw [(bad_all Hv.out).2]
      have S3 := Lib.hid s3
      clear s3 S2
      have hns := new_store w10 zeroTab_len
      have hsz := tabA_128 zeroTab_len
      have S4 : Hid (QM w5 (w10.alloc (.cells (tabA zeroTab) 31)) (w5.heap.size + 3) 0 V0D (fun _ => False)) := S3.out.later ((Below.refl _ _).alloc (Nat.le_refl _) _)
      clear S3
      go_wp2_with fail
      refine (file_any 1 _).mono ?_
      rintro r w11 ⟨rfl, hb⟩
      have S5 := Lib.hid (S4.out.later hb)
      clear hb S4 hns hsz
      go_wp2_with fail
      refine (qdAdd S5.out wn Hwz.out 1 ⟨#[49]⟩ 1 0 0 true false false size_K (by decide)).mono ?_
      rintro r w12 ⟨rfl, s6, -⟩
      have hba := bad_add (V := V0D) Hv.out
      unfold fileO at hba
      rw [hba] at s6 ⊢
      have S6 := Lib.hid (FIN.out _ _ _ s6)
      clear s6 hba S5
      go_wp2
      go_ret
      exact ⟨rfl, S6.out⟩
    | true =>
      have Hv := Lib.hid hv
      rw [new_make hv] at s1 ⊢
      have S1 := Lib.hid s1
      clear s1 hv
      go_wp2_with fail
      refine (valid_is wn _ Hwz.out Hv.out _).mono ?_
      rintro r w9 ⟨rfl, hb⟩
      have S2 := Lib.hid (S1.out.later hb)
      clear hb S1
      go_wp2_with fail
      refine (qdMake S2.out wn Hwz.out (by have := v1_len wn; omega)).mono ?_
      rintro r w10 ⟨rfl, s3, -⟩
      rw [more_make Hv.out] at s3 ⊢
      have S3 := Lib.hid s3
      clear s3 S2
      have HNm : Hid (NameOk (ofTab wn)) := nameOk_tab ⟨Hv.out, Hwz.out⟩
      go_wp2_with fail
      refine (ofTab_any wn _).mono ?_
      rintro r w11 ⟨rfl, hb⟩
      have S4 := Lib.hid (S3.out.later hb)
      clear hb S3
      go_wp2_with fail
      refine (qmVSet S4.out (ofTab wn) HNm.out rn (Nat.le_trans Hrn.out (by decide)) (by rw [avSeen_cal]; have := v1_len wn; omega)).mono ?_
      rintro r w12 ⟨rfl, s5, -⟩
      have S5 : Hid (QM w5 w12 (w5.heap.size + 3) 0 (V3D wn rn) (fun _ => False)) := s5
      clear s5 S4
      go_wp2_with fail
      have hdec := dDecode_any rn w12 (Nat.le_trans Hrn.out (by decide))
      unfold DecPost at hdec
      have Hra := Lib.hid (raw_all (raw := rn) Hv.out)
      obtain ⟨⟨t, e⟩, hd⟩ : ∃ p, decD rn = p := ⟨_, rfl⟩
      have hl : t.length = 16 := by have := decD_len rn; rw [hd] at this; exact this
      rw [hd] at hdec Hra
      have Hdec := Lib.hid hdec
      clear hdec hd
      refine Hdec.out.mono ?_
      rintro r w13 ⟨rfl, hb⟩
      have S6 := Lib.hid (S5.out.later hb)
      clear hb S5 Hdec
      have Hl := Lib.hid hl
      clear hl
      have hns := new_store w13 Hl.out
      have hsz := tabA_128 Hl.out
      have S7 : Hid (QM w5 (w13.alloc (.cells (tabA t) 31)) (w5.heap.size + 3) 0 (V3D wn rn) (fun _ => False)) := S6.out.later ((Below.refl _ _).alloc (Nat.le_refl _) _)
      clear S6
      go_wp2_with fail
      refine (qdAll S7.out wn Hwz.out).mono ?_
      rintro r w14 ⟨rfl, s8, -⟩
      rw [Hra.out]
      clear hns
      have hns := new_store w14 Hl.out
      have S8 := Lib.hid (s8.later (w' := (w14.alloc (.cells (tabA t) 31))) ((Below.refl _ _).alloc (Nat.le_refl _) _))
      have S9 := Lib.hid (FIN.out _ _ _ S8.out)
      clear s8 S8 S7
      go_wp2
      go_ret
      exact ⟨by simp, S9.out⟩
theorem derrors_any (kd wo tw : Nat) (fd n : Int) (oo : OpnT) (who raw : ByteArray) (w : World) (hk : kd < 256) (hw : wo < 256) (ht : tw < 256) (hm : oo.mak.size ≤ 9223372036854775807) (hu : Usages w) :
    Calls Tryd.prog 7 #[opDV ⟨kd, wo, tw, fd, n, oo⟩, .string who, .string raw] w fun r w' => r = .returned (.bool true) ∧ Below w.heap.size w w' := by
  obtain ⟨okd, omak, obn, onum, ooff, ord, owr, oap⟩ := oo
  by_cases h1 : (80 : Int) < (who.size : Int) <;> by_cases h2 : (100 : Int) < (raw.size : Int)
  · exact derrors_in kd wo tw fd n okd omak obn onum ooff ord owr oap who raw (who.extract 0 80) (raw.extract 0 100) w hk hw ht hm hu (.inl ⟨h1, rfl⟩) (.inl ⟨h2, rfl⟩)
  · exact derrors_in kd wo tw fd n okd omak obn onum ooff ord owr oap who raw (who.extract 0 80) raw w hk hw ht hm hu (.inl ⟨h1, rfl⟩) (.inr ⟨h2, rfl⟩)
  · exact derrors_in kd wo tw fd n okd omak obn onum ooff ord owr oap who raw who (raw.extract 0 100) w hk hw ht hm hu (.inr ⟨h1, rfl⟩) (.inl ⟨h2, rfl⟩)
  · exact derrors_in kd wo tw fd n okd omak obn onum ooff ord owr oap who raw who raw w hk hw ht hm hu (.inr ⟨h1, rfl⟩) (.inr ⟨h2, rfl⟩)
end Go.Proofs.YtfchfjipkggnkaaDoor
