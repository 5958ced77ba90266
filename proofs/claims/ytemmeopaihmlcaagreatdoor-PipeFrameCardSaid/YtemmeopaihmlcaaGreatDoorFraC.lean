/- Law 32: PipeFrame, the walk. -/
import Derived.Test.YtemmeopaihmlcaaGreatDoorFraB
import Derived.Test.YtemmeopaihmlcaaGreatDoorPlyJ
import Derived.Deep.CutRange
namespace Go.Proofs.YtemmeopaihmlcaaGreatDoor
open Go.RowKit
attribute [local go_sem ↓] Go.wp_at_zero Go.wp_at_succ
attribute [local go_sem ↓] run_neq_name run_neq_change run_neq_res

/-- A slice of strings that can be read. -/
def StrSl (w : World) (a : Option Addr) (n : Nat) (ls : List ByteArray) : Prop :=
  ls.length = n ∧ (0 < n → ∃ g off, a = some ⟨g, off, none⟩ ∧ ∀ j, j < n → w.cell? ⟨g, off + j, none⟩ = some (.string (ls.getD j ⟨#[]⟩)))
theorem StrSl.later {w w' : World} {a : Option Addr} {n : Nat} {ls : List ByteArray} (h : StrSl w a n ls) (hb : Below w.heap.size w w') : StrSl w' a n ls := by
  refine ⟨h.1, fun h0 => ?_⟩
  obtain ⟨g, off, ha, hc⟩ := h.2 h0
  refine ⟨g, off, ha, fun j hj => ?_⟩
  exact ((bcell hb).1 g _ (World.block_lt_of_cell? w ⟨g, off, none⟩ (hc 0 h0))).trans (hc j hj)
theorem birth7 : validB (⟨#[55]⟩ : ByteArray) = true := by decide +kernel

theorem getL_mem {K V : Type} (c : K → K → Int) (l : List (K × V)) (n : K) {v : V} (h : getL c l n = some v) : ∃ e ∈ l, e.2 = v := by
  induction l with
  | nil => simp [getL] at h
  | cons e l ih =>
    simp only [getL] at h
    split at h
    · exact ⟨e, by simp, Option.some.inj h⟩
    · obtain ⟨e', h1, h2⟩ := ih h
      exact ⟨e', by simp [h1], h2⟩
theorem baseN_val {N B : Nat} {w : World} {sp : Nat} {f : NameT → Option ByteArray} (h : BaseN N B w sp f) (n : NameT) : ((f n).getD ⟨#[]⟩).size ≤ 65536 := by
  obtain ⟨t, hs, _, hf⟩ := h
  rw [hf n]
  cases hg : getL cmpN t.ents n with
  | none => exact Nat.zero_le _
  | some v =>
    obtain ⟨e, he, rfl⟩ := getL_mem _ _ _ hg
    exact hs.vals e he
/-- The condition may be made stronger on the way. -/
theorem wpAnyH_mono {P : Program} {md : Region.Mode} {ops : Array Oper} {Q : Exit → Act → World → Prop} {S1 S2 : World → Prop} (hS : ∀ w, S2 w → S1 w) : ∀ (fuel : Nat) (listed : Array Bool) (a : Act) (w : World), wpAnyH P md ops Q S2 fuel listed a w → wpAnyH P md ops Q S1 fuel listed a w
  | 0, _, _, _, h => h
  | fuel + 1, _, _, _, h => ⟨h.1, fun i hi => wpOp_mono (fun a' w' h' => ⟨hS _ h'.1, wpAnyH_mono hS fuel _ a' w' h'.2⟩) (h.2 i hi)⟩
/-- Between two rounds of the loop over other objects. -/
structure FrI (w9 wr : World) (k sp : Nat) : Prop where
  low : Below w9.heap.size w9 wr
  base : ∃ g, BaseN k wr.heap.size wr sp g
  us : Usages wr
theorem FrI.later {w9 wr W : World} {k sp : Nat} (h : FrI w9 wr k sp) (hb : Below wr.heap.size wr W) : FrI w9 W k sp := by
  obtain ⟨g, hg⟩ := h.base
  exact ⟨h.low.trans (hb.mono h.low.size), ⟨g, (hg.later hb).up hb.size⟩, h.us.below hb h.us.pos⟩
def cut100 (t : ByteArray) : ByteArray := t.extract 0 (min t.size 100)

set_option linter.unusedSimpArgs false in
set_option maxRecDepth 100000 in
set_option maxHeartbeats 20000000 in
theorem frame_any (a : Option Addr) (n c : Nat) (fo : Nat → OpT) (kd : Nat) (oe on : Int) (os_ : ByteArray) (ox : Bool) (hkd : kd ≤ 255) (hnn : on ≤ 9223372036854775807) (hss : os_.size ≤ 9223372036854775807) (a2 : Option Addr) (n2 c2 : Nat) (ls : List ByteArray)
    (w : World) (hu : Usages w) (hn : n ≤ 9223372036854775807) (hl : OpSl w a n fo) (hl2 : StrSl w a2 n2 ls) (hz2 : ∀ t ∈ ls, t.size ≤ 9223372036854775807) : Calls Tryz.prog 9 #[.slice a n c, .agg #[.int .u8 kd, .int .i64 oe, .int .i64 on, .string os_, .bool ox], .slice a2 n2 c2] w (TruePost w) := by
  have Hl := Lib.hid hl; clear hl
  have Hl2 := Lib.hid hl2; clear hl2
  have Hz2 := Lib.hid hz2; clear hz2
  have HA : Hid (∀ o, Below w.heap.size w (w.alloc o)) := fun o => (Below.refl _ _).alloc (Nat.le_refl _) _
  have HX0 : Hid (∀ o, (w.alloc o).heap[w.heap.size]? = some o) := fun o => heap_alloc_new w o
  have HUA : Hid (∀ o, Usages (w.alloc o)) := fun o => hu.below (HA.out o) hu.pos
  clear hu
  go_enter Tryz.func9, Tryz.ntmps9
  go_wp2_with fail
  refine (pKnown_any _ (HUA.out _)).mono ?_
  rintro e w1 ⟨rfl, hb1⟩
  have Hb1 : Hid (Below w.heap.size w w1) := (HA.out _).trans (hb1.mono (HA.out _).size)
  have Hu1 : Hid (Usages w1) := (HUA.out _).below hb1 (HUA.out _).pos
  have HX1 := Lib.hid ((hb1.block _ (lt_of_heap (HX0.out _))).trans (HX0.out _))
  clear hb1 HA HX0 HUA
  by_cases hn10 : (10 : Int) < (n2 : Int)
  · go_wp2_with fail
    refine (pKnown_any _ Hu1.out).mono ?_
    rintro e w2 ⟨rfl, hb2⟩
    have HF : Hid (Below w.heap.size w w2) := Hb1.out.trans (hb2.mono Hb1.out.size)
    clear hb2
    go_wp2
    go_ret
    exact ⟨rfl, HF.out⟩
  have Hn10 : Hid (n2 ≤ 10) := by show _ ≤ _; omega
  go_wp2_with fail
  refine (play_any a n c fo w1 Hu1.out hn (Hl.out.later Hb1.out)).mono ?_
  rintro r w2 ⟨sp, ⟨e0, e1, e2, e3⟩, f, rfl, hb2, hbn2, hh2, -, -, hu2⟩
  have Hbw : Hid (Below w2.heap.size w2 (w2.alloc (.cells #[.int .i64 e0, .int .i64 e1, .int .i64 e2, .string e3] 63))) := (Below.refl _ _).alloc (Nat.le_refl _) _
  have Hb2 : Hid (Below w.heap.size w w2) := Hb1.out.trans (hb2.mono Hb1.out.size)
  have Hb3 : Hid (Below w.heap.size w (w2.alloc (.cells #[.int .i64 e0, .int .i64 e1, .int .i64 e2, .string e3] 63))) := Hb2.out.trans (Hbw.out.mono Hb2.out.size)
  have Hbn3 : Hid (BaseN 40 (w2.alloc (.cells #[.int .i64 e0, .int .i64 e1, .int .i64 e2, .string e3] 63)).heap.size (w2.alloc (.cells #[.int .i64 e0, .int .i64 e1, .int .i64 e2, .string e3] 63)) sp f) := (hbn2.later Hbw.out).up Hbw.out.size
  have Hu3 : Hid (Usages (w2.alloc (.cells #[.int .i64 e0, .int .i64 e1, .int .i64 e2, .string e3] 63))) := hu2.below Hbw.out hu2.pos
  have HX3 : Hid ((w2.alloc (.cells #[.int .i64 e0, .int .i64 e1, .int .i64 e2, .string e3] 63)).heap[w.heap.size]? = some (.cells #[.int .u8 kd, .int .i64 oe, .int .i64 on, .string os_, .bool ox] 81 (0, 0))) := by
    have h2 := (hb2.block _ (lt_of_heap HX1.out)).trans HX1.out
    exact (Below.heap_alloc _ _ _ (lt_of_heap h2)).trans h2
  have Hrd : Hid (PReady ⟨f, [], []⟩ oneM 2) := hh2.ready (by decide)
  have Hsf : Hid ((seenOne f).value.size ≤ 65536) := by
    show (avGet ⟨f, [], []⟩ (ofPipe oneM 2)).1.size ≤ 65536
    by_cases hc : checkP ⟨e0, e1, e2, e3⟩ = 0
    · rw [optP_ok hc] at hh2
      rw [(hh2.yes _ rfl).1]
      exact encPB_size hc
    · rw [optP_bad hc] at hh2
      rw [hh2.no rfl]
      exact Nat.zero_le _
  clear hb2 hbn2 hh2 hu2 Hbw HX1 Hb2 Hb1 Hu1
  go_wp2_with fail
  generalize w2.alloc (.cells #[.int .i64 e0, .int .i64 e1, .int .i64 e2, .string e3] 63) = w3 at *
  refine (qmNew (w0 := w3) Hu3.out (Below.refl _ _) Hbn3.out).mono ?_
  rintro r w4 ⟨rfl, s4, -⟩
  have S4 := Lib.hid s4; clear s4
  have hx4 := (S4.out.below.block _ (lt_of_heap HX3.out)).trans HX3.out
  have o0 : w4.cell? ⟨w.heap.size, 0, none⟩ = some (.int .u8 kd) := cell_of_heap hx4 0
  have o1 : w4.cell? ⟨w.heap.size, 1, none⟩ = some (.int .i64 oe) := cell_of_heap hx4 1
  have o2 : w4.cell? ⟨w.heap.size, 2, none⟩ = some (.int .i64 on) := cell_of_heap hx4 2
  have o3 : w4.cell? ⟨w.heap.size, 3, none⟩ = some (.string os_) := cell_of_heap hx4 3
  have o4 : w4.cell? ⟨w.heap.size, 4, none⟩ = some (.bool ox) := cell_of_heap hx4 4
  clear hx4
  obtain ⟨R, Wr, hR, hW, hR1, hW1, hWe, hdep⟩ := doV_rw f kd oe on os_ ox
  have Hdo : Hid (Calls Tryz.prog 38 #[.pointer (some ⟨w3.heap.size + 2, 0, none⟩), .agg #[.int .u8 kd, .int .i64 oe, .int .i64 on, .string os_, .bool ox]] w4 (QMP w3 (w3.heap.size + 2) 40 (doV ⟨f, [], []⟩ kd oe on os_ ox).1 (fun _ => False) w4 (resV (doV ⟨f, [], []⟩ kd oe on os_ ox).2))) :=
    doV_any w3 w4 _ 40 _ _ kd oe on os_ ox hkd S4.out Hrd.out hnn hss
  have Hdep := Lib.hid hdep
  generalize (doV ⟨f, [], []⟩ kd oe on os_ ox).1 = V1 at *
  generalize (doV ⟨f, [], []⟩ kd oe on os_ ox).2 = rs at *
  obtain ⟨rq, rn, ry, ⟨r3, r4, r5, r6⟩⟩ := rs
  have hRl : R.length ≤ 1 := by rcases hR1 with h | h <;> rw [h] <;> simp
  have hWl : Wr.length ≤ 1 := by
    rcases hW1 with h | ⟨v, x, h⟩ <;> rw [h] <;> simp
  have HRl := Lib.hid hRl
  have HWl := Lib.hid hWl
  have HR := Lib.hid hR
  have HW := Lib.hid hW
  have HR1 := Lib.hid hR1
  have HW1 := Lib.hid hW1
  have HWe : Hid (rq ≠ 0 → Wr = []) := hWe
  clear hR hW hR1 hW1 hWe hdep hRl hWl
  dsimp only [resV] at Hdo
  go_wp2_with fail
  refine Hdo.out.mono ?_
  rintro r w5 ⟨rfl, s5, -⟩
  have S5 := Lib.hid s5; clear s5 Hdo o0 o1 o2 o3 o4 S4
  have S6 : Hid (∀ o, QM w3 (w5.alloc o) (w3.heap.size + 2) 40 V1 (fun _ => False)) := fun o => S5.out.later ((Below.refl _ _).alloc (Nat.le_refl _) _)
  have HXr : Hid (∀ o, (w5.alloc o).heap[w5.heap.size]? = some o) := fun o => heap_alloc_new w5 o
  go_wp2_with fail
  refine (qmReads1 (S6.out _) HR.out HRl.out).mono ?_
  rintro r w7 ⟨a12, cap12, rfl, hrow7, hsl7, hb7, s7⟩
  have Hrow7 := Lib.hid hrow7
  have Hsl7 := Lib.hid hsl7
  have S7 := Lib.hid s7
  have HXr7 := Lib.hid ((hb7.block _ (lt_of_heap (HXr.out _))).trans (HXr.out _))
  clear hrow7 hsl7 hb7 s7 S6 HXr S5
  generalize w5.heap.size = X at *
  go_wp2_with fail
  refine (qmWrites1 S7.out HW.out HWl.out).mono ?_
  rintro r w8 ⟨a13, cap13, rfl, hsl8, hb8, s8⟩
  have Hrow8 := Lib.hid (Hrow7.out.later hb8)
  have Hsl8 := Lib.hid (Hsl7.out.later hb8)
  have Hsw8 := Lib.hid hsl8
  have HXr8 := Lib.hid ((hb8.block _ (lt_of_heap HXr7.out)).trans HXr7.out)
  have HB8 : Hid (Below w.heap.size w w8) := Hb3.out.trans (s8.below.mono Hb3.out.size)
  have HX8 := Lib.hid ((s8.below.block _ (lt_of_heap HX3.out)).trans HX3.out)
  have Hu8 := Lib.hid s8.usages
  clear hsl8 hb8 s8 S7 Hrow7 Hsl7 HXr7 HX3 Hu3 Hbn3
  obtain ⟨nr, hnr⟩ : ∃ nr, R.length = nr := ⟨_, rfl⟩
  obtain ⟨nw, hnw⟩ : ∃ nw, Wr.length = nw := ⟨_, rfl⟩
  rw [hnr] at Hrow8 ⊢
  rw [hnw]
  have hnr1 : nr ≤ 1 := by rw [← hnr]; exact HRl.out
  have hnw1 : nw ≤ 1 := by rw [← hnw]; exact HWl.out
  have Hnr := Lib.hid hnr
  have Hnw := Lib.hid hnw
  clear hnr hnw
  have x0 : w8.cell? ⟨X, 0, none⟩ = some (.int .i64 rq) := cell_of_heap HXr8.out 0
  have ht1 : ¬ (1 : Int) < (nr : Int) := by omega
  have ht2 : ¬ (1 : Int) < (nw : Int) := by omega
  have hrw : ((rq : Int) != 0) = false ∨ (((rq : Int) != 0) = true ∧ ¬ (0 : Int) < (nw : Int)) := by
    by_cases h0 : rq = 0
    · exact .inl (by rw [h0]; rfl)
    · refine .inr ⟨bne_iff_ne.2 (by omega), ?_⟩
      have := Hnw.out
      rw [HWe.out h0] at this
      simp at this
      omega
  go_upto_region 9 with fail
  go_cut [64] from 47 to 64 (fun sv wx => sv = .bool false ∧ wx = w8)
  case first =>
    rcases hrw with h3 | ⟨h3, h4⟩
    all_goals
      go_wp2_with fail
      go_meet
      exact ⟨congrArg Value.bool (by simp; omega), rfl⟩
  case rest =>
      obtain ⟨hs64, hwc⟩ := hcut
      subst hs64
      rw [hwc]
      clear hwc hrw
      have HB9 : Hid (Below w.heap.size w (w8.alloc (.cells #[.pointer none] 117))) := HB8.out.alloc HB8.out.size _
      have HB89 : Hid (Below w8.heap.size w8 (w8.alloc (.cells #[.pointer none] 117))) := (Below.refl _ _).alloc (Nat.le_refl _) _
      have Hbn9 := Lib.hid (baseN_empty w8)
      have Hu9 : Hid (Usages (w8.alloc (.cells #[.pointer none] 117))) := Hu8.out.below HB89.out Hu8.out.pos
      go_wp2_with fail
      refine (stateNew_any w8).mono ?_
      rintro r w9 ⟨rfl, rfl⟩
      generalize hX9 : w8.heap.size = X9 at Hbn9 ⊢
      generalize w8.alloc (.cells #[.pointer none] 117) = w9 at *
      clear hX9 x0 ht1 ht2
      go_wp2_with fail
      go_loopg [14, 15] n2 (fun gk tv iv wr => ∃ (k spk : Nat), k + gk = n2 ∧ iv = .int .i64 k ∧ tv = .pointer (some ⟨spk, 0, none⟩) ∧ Hid (FrI w9 wr k spk))
      case atStart => exact ⟨0, X9, by omega, rfl, rfl, ⟨Below.refl _ _, ⟨_, Hbn9.out⟩, Hu9.out⟩⟩
      case round =>
        clear Hbn9 Hu9
        obtain ⟨k, spk, hk, rfl, rfl, HI⟩ := hrel
        have Hk := Lib.hid hk
        have hkn : k ≤ n2 := by omega
        clear hk
        by_cases hlt : k < n2
        · have HBr : Hid (Below w.heap.size w wr) := HB9.out.trans (HI.out.low.mono HB9.out.size)
          obtain ⟨g, off, rfl, hc⟩ := (Hl2.out.later HBr.out).2 (by omega)
          have c0 := hc k hlt
          have hlsl := Hl2.out.1
          have htz : (ls.getD k ⟨#[]⟩).size ≤ 9223372036854775807 := by
            rw [List.getD_eq_getElem?_getD, List.getElem?_eq_getElem (by omega)]
            exact Hz2.out _ (List.getElem_mem _)
          generalize ls.getD k ⟨#[]⟩ = t at *
          clear hc hlsl
          have Hnm : Hid (NameOk ⟨11, ⟨#[55]⟩, (k : Int), 0, ⟨#[]⟩⟩) := nameOk_pipe birth7 (by decide) (by omega) (by have := Hn10.out; omega)
          have Hn60 : Hid (k < 60000) := by show _ < _; have := Hn10.out; omega
          have Id := Lib.hid (HI.out.later (Below.drew (Below.refl _ _)))
          have S0 : Hid (wr.cell? ⟨g, off + k, none⟩ = some (.string t)) := c0
          have hglt := World.block_lt_of_cell? wr ⟨g, _, none⟩ c0
          have HC : Hid (∀ W, Below wr.heap.size wr W → W.cell? ⟨g, off + k, none⟩ = some (.string t)) := fun W hb => ((bcell hb).1 g _ hglt).trans S0.out
          have hbd : Below wr.heap.size wr wr.drew := Below.drew (Below.refl _ _)
          have Hbd := Lib.hid hbd
          clear hbd hglt
          by_cases hz : 100 < t.size
          · have hz1 : (100 : Int) < (t.size : Int) := by omega
            have hmin : min (t.size : Int) 100 = 100 := Int.min_eq_right (by omega)
            have hz0 : (100 : Int) ≤ (t.size : Int) := by omega
            have Hv : Hid ((t.extract 0 100).size ≤ 65536) := by show _ ≤ _; rw [ByteArray.size_extract]; omega
            go_wp2_with fail
            go_region_held3 (fun W => W.cell? ⟨g, off + k, none⟩ = some (.string t)) (first | with_reducible exact S0.out | with_reducible exact S1.out | with_reducible exact S2.out | go_keep)
              (first
                | (go_at_call 27; refine (ofPipe_any _ _ _).mono ?_; rintro r wa ⟨rfl, hba⟩; have Ia := Lib.hid (Id.out.later hba); have Hba : Hid (Below wr.heap.size wr wa) := Hbd.out.trans hba; clear hba; have S1 := Lib.hid (HC.out _ Hba.out); obtain ⟨gb, hgb⟩ := Ia.out.base; have Hgb := Lib.hid hgb; clear hgb)
                | (go_at_call 13; refine (baseWith (n := ⟨11, ⟨#[55]⟩, (k : Int), 0, ⟨#[]⟩⟩) Ia.out.us Hgb.out Hn60.out Hnm.out Hv.out).mono ?_; rintro r wb ⟨sp', rfl, hbb, hbn⟩; have Hbb : Hid (Below wr.heap.size wr wb) := Hba.out.trans (hbb.mono Hba.out.size); have S2 := Lib.hid (HC.out _ Hbb.out); have HI2 : Hid (FrI w9 wb (k + 1) sp') := ⟨Ia.out.low.trans (hbb.mono Ia.out.low.size), ⟨_, hbn⟩, Ia.out.us.below hbb Ia.out.us.pos⟩; clear hbb hbn)
                | fail)
            all_goals
              clear S0 S1 S2 Id Ia HI HC Hgb
              go_wp2
              go_roundg (n2 - (k + 1))
              case measure => have := Hk.out; omega
              case rel => exact ⟨k + 1, sp', by have := Hk.out; omega, by go_num, rfl, HI2.out⟩
          · have hz1 : ¬ (100 : Int) < (t.size : Int) := by omega
            have hmin : min (t.size : Int) 100 = (t.size : Int) := Int.min_eq_left (by omega)
            have hz0 : (0 : Int) ≤ (t.size : Int) := by omega
            have hz2 : (t.size : Int) ≤ (t.size : Int) := by omega
            have Hv : Hid (t.size ≤ 65536) := by show _ ≤ _; omega
            go_wp2_with fail
            go_region_held3 (fun W => W.cell? ⟨g, off + k, none⟩ = some (.string t)) (first | with_reducible exact S0.out | with_reducible exact S1.out | with_reducible exact S2.out | go_keep)
              (first
                | (go_at_call 27; refine (ofPipe_any _ _ _).mono ?_; rintro r wa ⟨rfl, hba⟩; have Ia := Lib.hid (Id.out.later hba); have Hba : Hid (Below wr.heap.size wr wa) := Hbd.out.trans hba; clear hba; have S1 := Lib.hid (HC.out _ Hba.out); obtain ⟨gb, hgb⟩ := Ia.out.base; have Hgb := Lib.hid hgb; clear hgb)
                | (go_at_call 13; refine (baseWith (n := ⟨11, ⟨#[55]⟩, (k : Int), 0, ⟨#[]⟩⟩) Ia.out.us Hgb.out Hn60.out Hnm.out Hv.out).mono ?_; rintro r wb ⟨sp', rfl, hbb, hbn⟩; have Hbb : Hid (Below wr.heap.size wr wb) := Hba.out.trans (hbb.mono Hba.out.size); have S2 := Lib.hid (HC.out _ Hbb.out); have HI2 : Hid (FrI w9 wb (k + 1) sp') := ⟨Ia.out.low.trans (hbb.mono Ia.out.low.size), ⟨_, hbn⟩, Ia.out.us.below hbb Ia.out.us.pos⟩; clear hbb hbn)
                | fail)
            all_goals
              clear S0 S1 S2 Id Ia HI HC Hgb
              go_wp2
              go_roundg (n2 - (k + 1))
              case measure => have := Hk.out; omega
              case rel => exact ⟨k + 1, sp', by have := Hk.out; omega, by go_num, rfl, HI2.out⟩
        · obtain rfl : k = n2 := by omega
          obtain ⟨gk', hgk'⟩ := HI.out.base
          have HBr : Hid (Below w.heap.size w wr) := HB9.out.trans (HI.out.low.mono HB9.out.size)
          have HB8r : Hid (Below w8.heap.size w8 wr) := HB89.out.trans (HI.out.low.mono HB89.out.size)
          have Hrow := Lib.hid (Hrow8.out.later HB8r.out)
          have HXo := Lib.hid ((HB8r.out.block _ (lt_of_heap HX8.out)).trans HX8.out)
          have HXr := Lib.hid ((HB8r.out.block _ (lt_of_heap HXr8.out)).trans HXr8.out)
          have Hl12 := Lib.hid (Hsl8.out.later HB8r.out)
          have Hl13 := Lib.hid (Hsw8.out.later HB8r.out)
          have Hco : Hid (∀ c ∈ R, CallOk c) := fun c hc => by
            rcases HR1.out with h | h
            · rw [h] at hc; simp at hc
            · rw [h] at hc
              obtain rfl : c = seenOne f := by simpa using hc
              exact ⟨name_one, Hsf.out⟩
          have Hap : Hid (R = [] ∨ applyF gk' R (ofPipe oneM 2) = f (ofPipe oneM 2)) := by
            rcases HR1.out with h | h
            · exact .inl h
            · exact .inr (by rw [h]; exact apply_seen f gk')
          have Hgk := Lib.hid hgk'
          have Hur := Lib.hid HI.out.us
          clear HI hgk' HB89 HB9 HB8r Hrow8 HX8 HXr8 Hsl8 Hsw8
          have hNN : Hid (k + R.length < 60000) := by show _ < _; have := Hn10.out; have := HRl.out; omega
          go_wp2_with fail
          refine (baseApply Hur.out Hgk.out (Nat.le_refl _) hNN.out Hrow.out Hco.out).mono ?_
          rintro r w10 ⟨spa, rfl, hb10, hbn10⟩
          obtain ⟨hd1, hd2, hd3⟩ := Hdep.out _ Hap.out
          have Hd1 := Lib.hid hd1
          have Hd2 := Lib.hid hd2
          have Hd3 := Lib.hid hd3
          have HB10 : Hid (Below w.heap.size w w10) := HBr.out.trans (hb10.mono HBr.out.size)
          have HXo10 := Lib.hid ((hb10.block _ (lt_of_heap HXo.out)).trans HXo.out)
          have HXr10 := Lib.hid ((hb10.block _ (lt_of_heap HXr.out)).trans HXr.out)
          have H12 := Lib.hid (Hl12.out.later hb10)
          have H13 := Lib.hid (Hl13.out.later hb10)
          have Hu10 : Hid (Usages w10) := Hur.out.below hb10 Hur.out.pos
          have Hbn10 := Lib.hid hbn10
          have Hrd2 : Hid (PReady ⟨applyF gk' R, [], []⟩ oneM 2) := ⟨one_size, Nat.le_trans (baseN_val Hbn10.out (ofPipe oneM 2)) (by decide), (by show (0 : Nat) < 1000000; decide)⟩
          clear hd1 hd2 hd3 hb10 hbn10 HXo HXr Hl12 Hl13 Hur Hgk Hrow Hco HBr Hap Hdep
          generalize applyF gk' R = g' at *
          generalize k + R.length = M at *
          go_wp2_with fail
          refine (qmNew (w0 := w10) Hu10.out (Below.refl _ _) Hbn10.out).mono ?_
          rintro r w11 ⟨rfl, s11, -⟩
          have S11 := Lib.hid s11; clear s11 Hu10 Hbn10
          have HC : Hid (∀ W, Below w10.heap.size w10 W → (W.cell? ⟨w.heap.size, 0, none⟩ = some (.int .u8 kd) ∧ W.cell? ⟨w.heap.size, 1, none⟩ = some (.int .i64 oe) ∧ W.cell? ⟨w.heap.size, 2, none⟩ = some (.int .i64 on) ∧ W.cell? ⟨w.heap.size, 3, none⟩ = some (.string os_) ∧ W.cell? ⟨w.heap.size, 4, none⟩ = some (.bool ox) ∧ W.cell? ⟨X, 0, none⟩ = some (.int .i64 rq) ∧ W.cell? ⟨X, 1, none⟩ = some (.int .i64 rn) ∧ W.cell? ⟨X, 2, none⟩ = some (.string ry) ∧ W.cell? ⟨X, 3, none⟩ = some (.int .i64 r3) ∧ W.cell? ⟨X, 4, none⟩ = some (.int .i64 r4) ∧ W.cell? ⟨X, 5, none⟩ = some (.int .i64 r5) ∧ W.cell? ⟨X, 6, none⟩ = some (.string r6))) := fun W hb => by
            have h1 := (hb.block _ (lt_of_heap HXo10.out)).trans HXo10.out
            have h2 := (hb.block _ (lt_of_heap HXr10.out)).trans HXr10.out
            exact ⟨cell_of_heap h1 0, cell_of_heap h1 1, cell_of_heap h1 2, cell_of_heap h1 3, cell_of_heap h1 4, cell_of_heap h2 0, cell_of_heap h2 1, cell_of_heap h2 2, cell_of_heap h2 3, cell_of_heap h2 4, cell_of_heap h2 5, cell_of_heap h2 6⟩
          have Hdo2 : Hid (∀ W, QM w10 W (w10.heap.size + 2) M ⟨g', [], []⟩ (fun _ => False) → Calls Tryz.prog 38 #[.pointer (some ⟨w10.heap.size + 2, 0, none⟩), .agg #[.int .u8 kd, .int .i64 oe, .int .i64 on, .string os_, .bool ox]] W (QMP w10 (w10.heap.size + 2) M (doV ⟨g', [], []⟩ kd oe on os_ ox).1 (fun _ => False) W (.agg #[.int .i64 rq, .int .i64 rn, .string ry, .int .i64 r3, .int .i64 r4, .int .i64 r5, .string r6]))) := fun W hq => by
            have h := doV_any w10 W _ M _ _ kd oe on os_ ox hkd hq Hrd2.out hnn hss
            rw [Hd1.out] at h
            exact h
          generalize (doV ⟨g', [], []⟩ kd oe on os_ ox).1 = U1 at *
          clear Hd1 Hrd2 HXo10 HXr10
          have hqs : neqRB ((rq : Int), (rn : Int), ry, r3, r4, r5, r6) ((rq : Int), (rn : Int), ry, r3, r4, r5, r6) = false := neqRB_self _
          have S0 := Lib.hid (HC.out _ S11.out.below)
          obtain ⟨o0, o1, o2, o3, o4, y0, y1, y2, y3, y4, y5, y6⟩ := S0.out
          have Sd := Lib.hid (S11.out.later (Below.drew (Below.refl _ _)))
          have Hrl2 : Hid (R.length = nr) := Hnr.out
          have Hwl2 : Hid (Wr.length = nw) := Hnw.out
          go_wp2_with fail
          go_region_held3 (fun W => W.cell? ⟨w.heap.size, 0, none⟩ = some (.int .u8 kd) ∧ W.cell? ⟨w.heap.size, 1, none⟩ = some (.int .i64 oe) ∧ W.cell? ⟨w.heap.size, 2, none⟩ = some (.int .i64 on) ∧ W.cell? ⟨w.heap.size, 3, none⟩ = some (.string os_) ∧ W.cell? ⟨w.heap.size, 4, none⟩ = some (.bool ox) ∧ W.cell? ⟨X, 0, none⟩ = some (.int .i64 rq) ∧ W.cell? ⟨X, 1, none⟩ = some (.int .i64 rn) ∧ W.cell? ⟨X, 2, none⟩ = some (.string ry) ∧ W.cell? ⟨X, 3, none⟩ = some (.int .i64 r3) ∧ W.cell? ⟨X, 4, none⟩ = some (.int .i64 r4) ∧ W.cell? ⟨X, 5, none⟩ = some (.int .i64 r5) ∧ W.cell? ⟨X, 6, none⟩ = some (.string r6)) (first | with_reducible exact S0.out | with_reducible exact S1.out | with_reducible exact S2.out | with_reducible exact S3.out | go_keep)
            (first
              | (go_at_call 38; refine (Hdo2.out _ Sd.out).mono ?_; rintro r w12 ⟨rfl, s12, -⟩; have T1 := Lib.hid s12; clear s12; have S1 := Lib.hid (HC.out _ T1.out.below))
              | (go_at_call 24; refine (qmReads1 T1.out Hd2.out HRl.out).mono ?_; rintro r w13 ⟨b12, cc12, rfl, -, -, -, s13⟩; have T2 := Lib.hid s13; clear s13; have S2 := Lib.hid (HC.out _ T2.out.below); rw [Hrl2.out])
              | (go_at_call 20; refine (qmWrites1 T2.out Hd3.out HWl.out).mono ?_; rintro r w14 ⟨b13, cc13, rfl, -, -, s14⟩; have T3 := Lib.hid s14; clear s14; have S3 := Lib.hid (HC.out _ T3.out.below); rw [Hwl2.out])
              | fail)
          all_goals
            clear S0 S1 S2 S3 Sd T1 T2 HC Hdo2 o0 o1 o2 o3 o4 y0 y1 y2 y3 y4 y5 y6 hqs
            go_wp2_with fail
            go_loopg [20] nr (fun gk iv wr => ∃ (j : Nat), j + gk = nr ∧ iv = .int .i64 j ∧ Hid (QM w10 wr (w10.heap.size + 2) M U1 (fun _ => False)))
            case atStart => exact ⟨0, by omega, rfl, T3.out⟩
            case round =>
              obtain ⟨j, hj, rfl, T⟩ := hrel
              have Hj := Lib.hid hj
              have hjn : j ≤ nr := by omega
              clear hj
              by_cases hlj : j < nr
              · have hn1 : nr = 1 := by omega
                subst hn1
                obtain rfl : j = 0 := by omega
                have hRc : R = [⟨⟨11, ⟨#[51, 46, 49]⟩, 2, 0, ⟨#[]⟩⟩, (seenOne f).value, (seenOne f).absent⟩] := by
                  rcases HR1.out with h | h
                  · have := Hnr.out; rw [h] at this; simp at this
                  · exact h
                generalize (seenOne f).value = cv at *
                generalize (seenOne f).absent = cb at *
                obtain ⟨g12, rfl, p0, p1, p2, p3, p4, p5, p6⟩ := (H12.out.later T.out.below) _ hRc
                have q0 : wr.cell? ⟨g12, 0, none⟩ = some (.int .i64 11) := p0
                have q1 : wr.cell? ⟨g12, 1, none⟩ = some (.string ⟨#[51, 46, 49]⟩) := p1
                have q2 : wr.cell? ⟨g12, 2, none⟩ = some (.int .i64 2) := p2
                have q3 : wr.cell? ⟨g12, 3, none⟩ = some (.int .i64 0) := p3
                have q4 : wr.cell? ⟨g12, 4, none⟩ = some (.string ⟨#[]⟩) := p4
                have q5 : wr.cell? ⟨g12, 5, none⟩ = some (.string cv) := p5
                have q6 : wr.cell? ⟨g12, 6, none⟩ = some (.bool cb) := p6
                clear p0 p1 p2 p3 p4 p5 p6
                have S0 : Hid (wr.cell? ⟨g12, 0, none⟩ = some (.int .i64 11) ∧ wr.cell? ⟨g12, 1, none⟩ = some (.string ⟨#[51, 46, 49]⟩) ∧ wr.cell? ⟨g12, 2, none⟩ = some (.int .i64 2) ∧ wr.cell? ⟨g12, 3, none⟩ = some (.int .i64 0) ∧ wr.cell? ⟨g12, 4, none⟩ = some (.string ⟨#[]⟩) ∧ wr.cell? ⟨g12, 5, none⟩ = some (.string cv) ∧ wr.cell? ⟨g12, 6, none⟩ = some (.bool cb)) := ⟨q0, q1, q2, q3, q4, q5, q6⟩
                have HC2 : Hid (∀ W, Below w10.heap.size w10 W → (W.cell? ⟨g12, 0, none⟩ = some (.int .i64 11) ∧ W.cell? ⟨g12, 1, none⟩ = some (.string ⟨#[51, 46, 49]⟩) ∧ W.cell? ⟨g12, 2, none⟩ = some (.int .i64 2) ∧ W.cell? ⟨g12, 3, none⟩ = some (.int .i64 0) ∧ W.cell? ⟨g12, 4, none⟩ = some (.string ⟨#[]⟩) ∧ W.cell? ⟨g12, 5, none⟩ = some (.string cv) ∧ W.cell? ⟨g12, 6, none⟩ = some (.bool cb))) := fun W hb => by
                  obtain ⟨g12x, hgx, r0, r1, r2, r3, r4, r5, r6⟩ := (H12.out.later hb) _ hRc
                  cases hgx
                  exact ⟨r0, r1, r2, r3, r4, r5, r6⟩
                have hnq : neqNB ⟨11, ⟨#[51, 46, 49]⟩, 2, 0, ⟨#[]⟩⟩ ⟨11, ⟨#[51, 46, 49]⟩, 2, 0, ⟨#[]⟩⟩ = false := neqNB_self _
                have hcq : neqCB ⟨⟨11, ⟨#[51, 46, 49]⟩, 2, 0, ⟨#[]⟩⟩, cv, cb⟩ ⟨⟨11, ⟨#[51, 46, 49]⟩, 2, 0, ⟨#[]⟩⟩, cv, cb⟩ = false := neqCB_self _
                have Td := Lib.hid (T.out.later (Below.drew (Below.refl _ _)))
                have Hl1 : Hid (R.length = 1) := Hnr.out
                have HRc := Lib.hid hRc; clear hRc
                go_wp2_with fail
                refine wp_region_held_drew (S := fun W => W.cell? ⟨g12, 0, none⟩ = some (.int .i64 11) ∧ W.cell? ⟨g12, 1, none⟩ = some (.string ⟨#[51, 46, 49]⟩) ∧ W.cell? ⟨g12, 2, none⟩ = some (.int .i64 2) ∧ W.cell? ⟨g12, 3, none⟩ = some (.int .i64 0) ∧ W.cell? ⟨g12, 4, none⟩ = some (.string ⟨#[]⟩) ∧ W.cell? ⟨g12, 5, none⟩ = some (.string cv) ∧ W.cell? ⟨g12, 6, none⟩ = some (.bool cb)) (by kernel_rfl) S0.out (fun hHeld => ?_)
                refine wpAnyH_take (i := 0) (v := ?_) rfl (by kernel_rfl) (by kernel_rfl) (by kernel_rfl) (fun _ _ _ h => h) (Or.inl ⟨by rfl, ?_⟩) (by assumption) ?_
                rotate_left
                · (intro wx hSw; (try dsimp only at hSw); go_simp <;> with_reducible rfl)
                try simp only [Act.put, List.setIfInBounds_toArray, List.set_cons_zero, List.set_cons_succ]
                refine wpAnyH_take (i := 1) (v := ?_) rfl (by kernel_rfl) (by kernel_rfl) (by kernel_rfl) (fun _ _ _ h => h) (Or.inl ⟨by rfl, ?_⟩) (by assumption) ?_
                rotate_left
                · (intro wx hSw; (try dsimp only at hSw); go_simp <;> with_reducible rfl)
                try simp only [Act.put, List.setIfInBounds_toArray, List.set_cons_zero, List.set_cons_succ]
                refine wpAnyH_take (i := 2) (v := ?_) rfl (by kernel_rfl) (by kernel_rfl) (by kernel_rfl) (fun _ _ _ h => h) (Or.inl ⟨by rfl, ?_⟩) (by assumption) ?_
                rotate_left
                · (intro wx hSw; (try dsimp only at hSw); go_simp <;> with_reducible rfl)
                try simp only [Act.put, List.setIfInBounds_toArray, List.set_cons_zero, List.set_cons_succ]
                refine wpAnyH_take (i := 3) (v := ?_) rfl (by kernel_rfl) (by kernel_rfl) (by kernel_rfl) (fun _ _ _ h => h) (Or.inl ⟨by rfl, ?_⟩) (by assumption) ?_
                rotate_left
                · (intro wx hSw; (try dsimp only at hSw); go_simp <;> with_reducible rfl)
                try simp only [Act.put, List.setIfInBounds_toArray, List.set_cons_zero, List.set_cons_succ]
                refine wpAnyH_take (i := 4) (v := ?_) rfl (by kernel_rfl) (by kernel_rfl) (by kernel_rfl) (fun _ _ _ h => h) (Or.inl ⟨by rfl, ?_⟩) (by assumption) ?_
                rotate_left
                · (intro wx hSw; (try dsimp only at hSw); go_simp <;> with_reducible rfl)
                try simp only [Act.put, List.setIfInBounds_toArray, List.set_cons_zero, List.set_cons_succ]
                refine wpAnyH_ready (rs := [5]) (by kernel_rfl) (by simp) ?_
                refine AllReadyH.cons rfl (fun K hK => ?_) AllReadyH.nil
                go_simp
                go_at_call 28
                refine (one_any _).mono ?_
                rintro r wa ⟨rfl, hba⟩
                have Ta := Lib.hid (Td.out.later hba)
                clear hba
                go_wp2_with fail
                refine hK.out _ _ (HC2.out _ Ta.out.below) (fun hHeld2 => ?_)
                clear hK K hHeld
                try simp only [Act.put, List.setIfInBounds_toArray, List.set_cons_zero, List.set_cons_succ]
                refine wpAnyH_ready (rs := [6]) (by kernel_rfl) (by simp) ?_
                refine AllReadyH.cons rfl (fun K hK => ?_) AllReadyH.nil
                go_simp
                go_at_call 27
                refine (ofPipe_any _ _ _).mono ?_
                rintro r wb ⟨rfl, hbb⟩
                have Tb := Lib.hid (Ta.out.later hbb)
                clear hbb
                go_wp2_with fail
                refine hK.out _ _ (HC2.out _ Tb.out.below) (fun hHeld => ?_)
                clear hK K hHeld2
                try simp only [Act.put, List.setIfInBounds_toArray, List.set_cons_zero, List.set_cons_succ]
                refine wpAnyH_take (i := 7) (v := ?_) rfl (by kernel_rfl) (by kernel_rfl) (by kernel_rfl) (fun _ _ _ h => h) (Or.inl ⟨by rfl, ?_⟩) (by assumption) ?_
                rotate_left
                · (intro wx hSw; (try dsimp only at hSw); go_simp <;> with_reducible rfl)
                try simp only [Act.put, List.setIfInBounds_toArray, List.set_cons_zero, List.set_cons_succ]
                refine wpAnyH_take (i := 8) (v := ?_) rfl (by kernel_rfl) (by kernel_rfl) (by kernel_rfl) (fun _ _ _ h => h) (Or.inl ⟨by rfl, ?_⟩) (by assumption) ?_
                rotate_left
                · (intro wx hSw; (try dsimp only at hSw); go_simp <;> with_reducible rfl)
                try simp only [Act.put, List.setIfInBounds_toArray, List.set_cons_zero, List.set_cons_succ]
                refine wpAnyH_take (i := 9) (v := ?_) rfl (by kernel_rfl) (by kernel_rfl) (by kernel_rfl) (fun _ _ _ h => h) (Or.inl ⟨by rfl, ?_⟩) (by assumption) ?_
                rotate_left
                · (intro wx hSw; (try dsimp only at hSw); go_simp <;> with_reducible rfl)
                try simp only [Act.put, List.setIfInBounds_toArray, List.set_cons_zero, List.set_cons_succ]
                refine wpAnyH_take (i := 11) (v := ?_) rfl (by kernel_rfl) (by kernel_rfl) (by kernel_rfl) (fun _ _ _ h => h) (Or.inl ⟨by rfl, ?_⟩) (by assumption) ?_
                rotate_left
                · (intro wx hSw; (try dsimp only at hSw); go_simp <;> with_reducible rfl)
                try simp only [Act.put, List.setIfInBounds_toArray, List.set_cons_zero, List.set_cons_succ]
                refine wpAnyH_take (i := 14) (v := ?_) rfl (by kernel_rfl) (by kernel_rfl) (by kernel_rfl) (fun _ _ _ h => h) (Or.inl ⟨by rfl, ?_⟩) (by assumption) ?_
                rotate_left
                · (intro wx hSw; (try dsimp only at hSw); go_simp <;> with_reducible rfl)
                try simp only [Act.put, List.setIfInBounds_toArray, List.set_cons_zero, List.set_cons_succ]
                refine wpAnyH_take (i := 15) (v := ?_) rfl (by kernel_rfl) (by kernel_rfl) (by kernel_rfl) (fun _ _ _ h => h) (Or.inl ⟨by rfl, ?_⟩) (by assumption) ?_
                rotate_left
                · (intro wx hSw; (try dsimp only at hSw); go_simp <;> with_reducible rfl)
                try simp only [Act.put, List.setIfInBounds_toArray, List.set_cons_zero, List.set_cons_succ]
                refine wpAnyH_take (i := 16) (v := ?_) rfl (by kernel_rfl) (by kernel_rfl) (by kernel_rfl) (fun _ _ _ h => h) (Or.inl ⟨by rfl, ?_⟩) (by assumption) ?_
                rotate_left
                · (intro wx hSw; (try dsimp only at hSw); go_simp <;> with_reducible rfl)
                try simp only [Act.put, List.setIfInBounds_toArray, List.set_cons_zero, List.set_cons_succ]
                refine wpAnyH_take (i := 17) (v := ?_) rfl (by kernel_rfl) (by kernel_rfl) (by kernel_rfl) (fun _ _ _ h => h) (Or.inl ⟨by rfl, ?_⟩) (by assumption) ?_
                rotate_left
                · (intro wx hSw; (try dsimp only at hSw); go_simp <;> with_reducible rfl)
                try simp only [Act.put, List.setIfInBounds_toArray, List.set_cons_zero, List.set_cons_succ]
                refine wpAnyH_ready (rs := [10]) (by kernel_rfl) (by simp) ?_
                refine AllReadyH.cons rfl (fun K hK => ?_) AllReadyH.nil
                go_simp
                go_at_call 24
                refine (qmReads1 Tb.out Hd2.out HRl.out).mono ?_
                rintro r wc ⟨b13, cc13, rfl, -, hs, -, sc⟩
                have Tc := Lib.hid sc
                clear sc
                obtain ⟨g13, rfl, t0, t1, t2, t3, t4, t5, t6⟩ := hs _ HRc.out
                rw [Hl1.out]
                go_wp2_with fail
                refine hK.out _ _ (HC2.out _ Tc.out.below) (fun hHeld2 => ?_)
                refine wpAnyH_mono (S2 := fun W => W.cell? ⟨g12, 0, none⟩ = some (.int .i64 11) ∧ W.cell? ⟨g12, 1, none⟩ = some (.string ⟨#[51, 46, 49]⟩) ∧ W.cell? ⟨g12, 2, none⟩ = some (.int .i64 2) ∧ W.cell? ⟨g12, 3, none⟩ = some (.int .i64 0) ∧ W.cell? ⟨g12, 4, none⟩ = some (.string ⟨#[]⟩) ∧ W.cell? ⟨g12, 5, none⟩ = some (.string cv) ∧ W.cell? ⟨g12, 6, none⟩ = some (.bool cb) ∧ W.cell? ⟨g13, 0, none⟩ = some (.int .i64 11) ∧ W.cell? ⟨g13, 1, none⟩ = some (.string ⟨#[51, 46, 49]⟩) ∧ W.cell? ⟨g13, 2, none⟩ = some (.int .i64 2) ∧ W.cell? ⟨g13, 3, none⟩ = some (.int .i64 0) ∧ W.cell? ⟨g13, 4, none⟩ = some (.string ⟨#[]⟩) ∧ W.cell? ⟨g13, 5, none⟩ = some (.string cv) ∧ W.cell? ⟨g13, 6, none⟩ = some (.bool cb)) (fun W h => ⟨h.1, h.2.1, h.2.2.1, h.2.2.2.1, h.2.2.2.2.1, h.2.2.2.2.2.1, h.2.2.2.2.2.2.1⟩) _ _ _ _ ?_
                have hHeld3 : (fun W => W.cell? ⟨g12, 0, none⟩ = some (.int .i64 11) ∧ W.cell? ⟨g12, 1, none⟩ = some (.string ⟨#[51, 46, 49]⟩) ∧ W.cell? ⟨g12, 2, none⟩ = some (.int .i64 2) ∧ W.cell? ⟨g12, 3, none⟩ = some (.int .i64 0) ∧ W.cell? ⟨g12, 4, none⟩ = some (.string ⟨#[]⟩) ∧ W.cell? ⟨g12, 5, none⟩ = some (.string cv) ∧ W.cell? ⟨g12, 6, none⟩ = some (.bool cb) ∧ W.cell? ⟨g13, 0, none⟩ = some (.int .i64 11) ∧ W.cell? ⟨g13, 1, none⟩ = some (.string ⟨#[51, 46, 49]⟩) ∧ W.cell? ⟨g13, 2, none⟩ = some (.int .i64 2) ∧ W.cell? ⟨g13, 3, none⟩ = some (.int .i64 0) ∧ W.cell? ⟨g13, 4, none⟩ = some (.string ⟨#[]⟩) ∧ W.cell? ⟨g13, 5, none⟩ = some (.string cv) ∧ W.cell? ⟨g13, 6, none⟩ = some (.bool cb)) wc := ⟨hHeld2.1, hHeld2.2.1, hHeld2.2.2.1, hHeld2.2.2.2.1, hHeld2.2.2.2.2.1, hHeld2.2.2.2.2.2.1, hHeld2.2.2.2.2.2.2, t0, t1, t2, t3, t4, t5, t6⟩
                clear hK K hHeld hHeld2 hs t0 t1 t2 t3 t4 t5 t6
                try simp only [Act.put, List.setIfInBounds_toArray, List.set_cons_zero, List.set_cons_succ]
                refine wpAnyH_take (i := 12) (v := ?_) rfl (by kernel_rfl) (by kernel_rfl) (by kernel_rfl) (fun _ _ _ h => h) (Or.inl ⟨by rfl, ?_⟩) (by assumption) ?_
                rotate_left
                · (intro wx hSw; (try dsimp only at hSw); go_simp <;> with_reducible rfl)
                try simp only [Act.put, List.setIfInBounds_toArray, List.set_cons_zero, List.set_cons_succ]
                refine wpAnyH_take (i := 13) (v := ?_) rfl (by kernel_rfl) (by kernel_rfl) (by kernel_rfl) (fun _ _ _ h => h) (Or.inl ⟨by rfl, ?_⟩) (by assumption) ?_
                rotate_left
                · (intro wx hSw; (try dsimp only at hSw); go_simp <;> with_reducible rfl)
                try simp only [Act.put, List.setIfInBounds_toArray, List.set_cons_zero, List.set_cons_succ]
                refine wpAnyH_take (i := 18) (v := ?_) rfl (by kernel_rfl) (by kernel_rfl) (by kernel_rfl) (fun _ _ _ h => h) (Or.inl ⟨by rfl, ?_⟩) (by assumption) ?_
                rotate_left
                · (intro wx hSw; (try dsimp only at hSw); go_simp <;> with_reducible rfl)
                try simp only [Act.put, List.setIfInBounds_toArray, List.set_cons_zero, List.set_cons_succ]
                refine wpAnyH_take (i := 19) (v := ?_) rfl (by kernel_rfl) (by kernel_rfl) (by kernel_rfl) (fun _ _ _ h => h) (Or.inl ⟨by rfl, ?_⟩) (by assumption) ?_
                rotate_left
                · (intro wx hSw; (try dsimp only at hSw); go_simp <;> with_reducible rfl)
                try simp only [Act.put, List.setIfInBounds_toArray, List.set_cons_zero, List.set_cons_succ]
                refine wpAnyH_done (by kernel_rfl) ?_ _
                clear hHeld3
                all_goals
                  clear S0 HC2
                  go_wp2
                  go_roundg 0
                  case measure => have := Hj.out; omega
                  case rel => exact ⟨1, by omega, by go_num, Tc.out⟩
              · obtain rfl : j = nr := by omega
                clear Hj
                go_wp2_with fail
                go_loopg [21] nw (fun gk iv wr => ∃ (j : Nat), j + gk = nw ∧ iv = .int .i64 j ∧ Hid (QM w10 wr (w10.heap.size + 2) M U1 (fun _ => False)))
                case atStart => exact ⟨0, by omega, rfl, T.out⟩
                case round =>
                  obtain ⟨j, hj, rfl, T3x⟩ := hrel
                  have Hj := Lib.hid hj
                  have hjn : j ≤ nw := by omega
                  clear hj
                  by_cases hlj : j < nw
                  · have hn1 : nw = 1 := by omega
                    subst hn1
                    obtain rfl : j = 0 := by omega
                    obtain ⟨cv, cb, hRc⟩ : ∃ cv cb, Wr = [⟨⟨11, ⟨#[51, 46, 49]⟩, 2, 0, ⟨#[]⟩⟩, cv, cb⟩] := by
                      rcases HW1.out with h | ⟨v, x, h⟩
                      · have := Hnw.out; rw [h] at this; simp at this
                      · exact ⟨v, x, h⟩
                    obtain ⟨g12, rfl, p0, p1, p2, p3, p4, p5, p6⟩ := (H13.out.later T3x.out.below) _ hRc
                    have q0 : wr.cell? ⟨g12, 0, none⟩ = some (.int .i64 11) := p0
                    have q1 : wr.cell? ⟨g12, 1, none⟩ = some (.string ⟨#[51, 46, 49]⟩) := p1
                    have q2 : wr.cell? ⟨g12, 2, none⟩ = some (.int .i64 2) := p2
                    have q3 : wr.cell? ⟨g12, 3, none⟩ = some (.int .i64 0) := p3
                    have q4 : wr.cell? ⟨g12, 4, none⟩ = some (.string ⟨#[]⟩) := p4
                    have q5 : wr.cell? ⟨g12, 5, none⟩ = some (.string cv) := p5
                    have q6 : wr.cell? ⟨g12, 6, none⟩ = some (.bool cb) := p6
                    clear p0 p1 p2 p3 p4 p5 p6
                    have S0 : Hid (wr.cell? ⟨g12, 0, none⟩ = some (.int .i64 11) ∧ wr.cell? ⟨g12, 1, none⟩ = some (.string ⟨#[51, 46, 49]⟩) ∧ wr.cell? ⟨g12, 2, none⟩ = some (.int .i64 2) ∧ wr.cell? ⟨g12, 3, none⟩ = some (.int .i64 0) ∧ wr.cell? ⟨g12, 4, none⟩ = some (.string ⟨#[]⟩) ∧ wr.cell? ⟨g12, 5, none⟩ = some (.string cv) ∧ wr.cell? ⟨g12, 6, none⟩ = some (.bool cb)) := ⟨q0, q1, q2, q3, q4, q5, q6⟩
                    have HC2 : Hid (∀ W, Below w10.heap.size w10 W → (W.cell? ⟨g12, 0, none⟩ = some (.int .i64 11) ∧ W.cell? ⟨g12, 1, none⟩ = some (.string ⟨#[51, 46, 49]⟩) ∧ W.cell? ⟨g12, 2, none⟩ = some (.int .i64 2) ∧ W.cell? ⟨g12, 3, none⟩ = some (.int .i64 0) ∧ W.cell? ⟨g12, 4, none⟩ = some (.string ⟨#[]⟩) ∧ W.cell? ⟨g12, 5, none⟩ = some (.string cv) ∧ W.cell? ⟨g12, 6, none⟩ = some (.bool cb))) := fun W hb => by
                      obtain ⟨g12x, hgx, r0, r1, r2, r3, r4, r5, r6⟩ := (H13.out.later hb) _ hRc
                      cases hgx
                      exact ⟨r0, r1, r2, r3, r4, r5, r6⟩
                    have hnq : neqNB ⟨11, ⟨#[51, 46, 49]⟩, 2, 0, ⟨#[]⟩⟩ ⟨11, ⟨#[51, 46, 49]⟩, 2, 0, ⟨#[]⟩⟩ = false := neqNB_self _
                    have hcq : neqCB ⟨⟨11, ⟨#[51, 46, 49]⟩, 2, 0, ⟨#[]⟩⟩, cv, cb⟩ ⟨⟨11, ⟨#[51, 46, 49]⟩, 2, 0, ⟨#[]⟩⟩, cv, cb⟩ = false := neqCB_self _
                    have Td := Lib.hid (T3x.out.later (Below.drew (Below.refl _ _)))
                    have Hl1 : Hid (Wr.length = 1) := Hnw.out
                    have HRc := Lib.hid hRc; clear hRc
                    go_wp2_with fail
                    refine wp_region_held_drew (S := fun W => W.cell? ⟨g12, 0, none⟩ = some (.int .i64 11) ∧ W.cell? ⟨g12, 1, none⟩ = some (.string ⟨#[51, 46, 49]⟩) ∧ W.cell? ⟨g12, 2, none⟩ = some (.int .i64 2) ∧ W.cell? ⟨g12, 3, none⟩ = some (.int .i64 0) ∧ W.cell? ⟨g12, 4, none⟩ = some (.string ⟨#[]⟩) ∧ W.cell? ⟨g12, 5, none⟩ = some (.string cv) ∧ W.cell? ⟨g12, 6, none⟩ = some (.bool cb)) (by kernel_rfl) S0.out (fun hHeld => ?_)
                    refine wpAnyH_take (i := 0) (v := ?_) rfl (by kernel_rfl) (by kernel_rfl) (by kernel_rfl) (fun _ _ _ h => h) (Or.inl ⟨by rfl, ?_⟩) (by assumption) ?_
                    rotate_left
                    · (intro wx hSw; (try dsimp only at hSw); go_simp <;> with_reducible rfl)
                    try simp only [Act.put, List.setIfInBounds_toArray, List.set_cons_zero, List.set_cons_succ]
                    refine wpAnyH_take (i := 1) (v := ?_) rfl (by kernel_rfl) (by kernel_rfl) (by kernel_rfl) (fun _ _ _ h => h) (Or.inl ⟨by rfl, ?_⟩) (by assumption) ?_
                    rotate_left
                    · (intro wx hSw; (try dsimp only at hSw); go_simp <;> with_reducible rfl)
                    try simp only [Act.put, List.setIfInBounds_toArray, List.set_cons_zero, List.set_cons_succ]
                    refine wpAnyH_take (i := 2) (v := ?_) rfl (by kernel_rfl) (by kernel_rfl) (by kernel_rfl) (fun _ _ _ h => h) (Or.inl ⟨by rfl, ?_⟩) (by assumption) ?_
                    rotate_left
                    · (intro wx hSw; (try dsimp only at hSw); go_simp <;> with_reducible rfl)
                    try simp only [Act.put, List.setIfInBounds_toArray, List.set_cons_zero, List.set_cons_succ]
                    refine wpAnyH_take (i := 3) (v := ?_) rfl (by kernel_rfl) (by kernel_rfl) (by kernel_rfl) (fun _ _ _ h => h) (Or.inl ⟨by rfl, ?_⟩) (by assumption) ?_
                    rotate_left
                    · (intro wx hSw; (try dsimp only at hSw); go_simp <;> with_reducible rfl)
                    try simp only [Act.put, List.setIfInBounds_toArray, List.set_cons_zero, List.set_cons_succ]
                    refine wpAnyH_take (i := 4) (v := ?_) rfl (by kernel_rfl) (by kernel_rfl) (by kernel_rfl) (fun _ _ _ h => h) (Or.inl ⟨by rfl, ?_⟩) (by assumption) ?_
                    rotate_left
                    · (intro wx hSw; (try dsimp only at hSw); go_simp <;> with_reducible rfl)
                    try simp only [Act.put, List.setIfInBounds_toArray, List.set_cons_zero, List.set_cons_succ]
                    refine wpAnyH_ready (rs := [5]) (by kernel_rfl) (by simp) ?_
                    refine AllReadyH.cons rfl (fun K hK => ?_) AllReadyH.nil
                    go_simp
                    go_at_call 28
                    refine (one_any _).mono ?_
                    rintro r wa ⟨rfl, hba⟩
                    have Ta := Lib.hid (Td.out.later hba)
                    clear hba
                    go_wp2_with fail
                    refine hK.out _ _ (HC2.out _ Ta.out.below) (fun hHeld2 => ?_)
                    clear hK K hHeld
                    try simp only [Act.put, List.setIfInBounds_toArray, List.set_cons_zero, List.set_cons_succ]
                    refine wpAnyH_ready (rs := [6]) (by kernel_rfl) (by simp) ?_
                    refine AllReadyH.cons rfl (fun K hK => ?_) AllReadyH.nil
                    go_simp
                    go_at_call 27
                    refine (ofPipe_any _ _ _).mono ?_
                    rintro r wb ⟨rfl, hbb⟩
                    have Tb := Lib.hid (Ta.out.later hbb)
                    clear hbb
                    go_wp2_with fail
                    refine hK.out _ _ (HC2.out _ Tb.out.below) (fun hHeld => ?_)
                    clear hK K hHeld2
                    try simp only [Act.put, List.setIfInBounds_toArray, List.set_cons_zero, List.set_cons_succ]
                    refine wpAnyH_take (i := 7) (v := ?_) rfl (by kernel_rfl) (by kernel_rfl) (by kernel_rfl) (fun _ _ _ h => h) (Or.inl ⟨by rfl, ?_⟩) (by assumption) ?_
                    rotate_left
                    · (intro wx hSw; (try dsimp only at hSw); go_simp <;> with_reducible rfl)
                    try simp only [Act.put, List.setIfInBounds_toArray, List.set_cons_zero, List.set_cons_succ]
                    refine wpAnyH_take (i := 8) (v := ?_) rfl (by kernel_rfl) (by kernel_rfl) (by kernel_rfl) (fun _ _ _ h => h) (Or.inl ⟨by rfl, ?_⟩) (by assumption) ?_
                    rotate_left
                    · (intro wx hSw; (try dsimp only at hSw); go_simp <;> with_reducible rfl)
                    try simp only [Act.put, List.setIfInBounds_toArray, List.set_cons_zero, List.set_cons_succ]
                    refine wpAnyH_take (i := 9) (v := ?_) rfl (by kernel_rfl) (by kernel_rfl) (by kernel_rfl) (fun _ _ _ h => h) (Or.inl ⟨by rfl, ?_⟩) (by assumption) ?_
                    rotate_left
                    · (intro wx hSw; (try dsimp only at hSw); go_simp <;> with_reducible rfl)
                    try simp only [Act.put, List.setIfInBounds_toArray, List.set_cons_zero, List.set_cons_succ]
                    refine wpAnyH_take (i := 11) (v := ?_) rfl (by kernel_rfl) (by kernel_rfl) (by kernel_rfl) (fun _ _ _ h => h) (Or.inl ⟨by rfl, ?_⟩) (by assumption) ?_
                    rotate_left
                    · (intro wx hSw; (try dsimp only at hSw); go_simp <;> with_reducible rfl)
                    try simp only [Act.put, List.setIfInBounds_toArray, List.set_cons_zero, List.set_cons_succ]
                    refine wpAnyH_take (i := 14) (v := ?_) rfl (by kernel_rfl) (by kernel_rfl) (by kernel_rfl) (fun _ _ _ h => h) (Or.inl ⟨by rfl, ?_⟩) (by assumption) ?_
                    rotate_left
                    · (intro wx hSw; (try dsimp only at hSw); go_simp <;> with_reducible rfl)
                    try simp only [Act.put, List.setIfInBounds_toArray, List.set_cons_zero, List.set_cons_succ]
                    refine wpAnyH_take (i := 15) (v := ?_) rfl (by kernel_rfl) (by kernel_rfl) (by kernel_rfl) (fun _ _ _ h => h) (Or.inl ⟨by rfl, ?_⟩) (by assumption) ?_
                    rotate_left
                    · (intro wx hSw; (try dsimp only at hSw); go_simp <;> with_reducible rfl)
                    try simp only [Act.put, List.setIfInBounds_toArray, List.set_cons_zero, List.set_cons_succ]
                    refine wpAnyH_take (i := 16) (v := ?_) rfl (by kernel_rfl) (by kernel_rfl) (by kernel_rfl) (fun _ _ _ h => h) (Or.inl ⟨by rfl, ?_⟩) (by assumption) ?_
                    rotate_left
                    · (intro wx hSw; (try dsimp only at hSw); go_simp <;> with_reducible rfl)
                    try simp only [Act.put, List.setIfInBounds_toArray, List.set_cons_zero, List.set_cons_succ]
                    refine wpAnyH_take (i := 17) (v := ?_) rfl (by kernel_rfl) (by kernel_rfl) (by kernel_rfl) (fun _ _ _ h => h) (Or.inl ⟨by rfl, ?_⟩) (by assumption) ?_
                    rotate_left
                    · (intro wx hSw; (try dsimp only at hSw); go_simp <;> with_reducible rfl)
                    try simp only [Act.put, List.setIfInBounds_toArray, List.set_cons_zero, List.set_cons_succ]
                    refine wpAnyH_ready (rs := [10]) (by kernel_rfl) (by simp) ?_
                    refine AllReadyH.cons rfl (fun K hK => ?_) AllReadyH.nil
                    go_simp
                    go_at_call 20
                    refine (qmWrites1 Tb.out Hd3.out HWl.out).mono ?_
                    rintro r wc ⟨b13, cc13, rfl, hs, -, sc⟩
                    have Tc := Lib.hid sc
                    clear sc
                    obtain ⟨g13, rfl, t0, t1, t2, t3, t4, t5, t6⟩ := hs _ HRc.out
                    rw [Hl1.out]
                    go_wp2_with fail
                    refine hK.out _ _ (HC2.out _ Tc.out.below) (fun hHeld2 => ?_)
                    refine wpAnyH_mono (S2 := fun W => W.cell? ⟨g12, 0, none⟩ = some (.int .i64 11) ∧ W.cell? ⟨g12, 1, none⟩ = some (.string ⟨#[51, 46, 49]⟩) ∧ W.cell? ⟨g12, 2, none⟩ = some (.int .i64 2) ∧ W.cell? ⟨g12, 3, none⟩ = some (.int .i64 0) ∧ W.cell? ⟨g12, 4, none⟩ = some (.string ⟨#[]⟩) ∧ W.cell? ⟨g12, 5, none⟩ = some (.string cv) ∧ W.cell? ⟨g12, 6, none⟩ = some (.bool cb) ∧ W.cell? ⟨g13, 0, none⟩ = some (.int .i64 11) ∧ W.cell? ⟨g13, 1, none⟩ = some (.string ⟨#[51, 46, 49]⟩) ∧ W.cell? ⟨g13, 2, none⟩ = some (.int .i64 2) ∧ W.cell? ⟨g13, 3, none⟩ = some (.int .i64 0) ∧ W.cell? ⟨g13, 4, none⟩ = some (.string ⟨#[]⟩) ∧ W.cell? ⟨g13, 5, none⟩ = some (.string cv) ∧ W.cell? ⟨g13, 6, none⟩ = some (.bool cb)) (fun W h => ⟨h.1, h.2.1, h.2.2.1, h.2.2.2.1, h.2.2.2.2.1, h.2.2.2.2.2.1, h.2.2.2.2.2.2.1⟩) _ _ _ _ ?_
                    have hHeld3 : (fun W => W.cell? ⟨g12, 0, none⟩ = some (.int .i64 11) ∧ W.cell? ⟨g12, 1, none⟩ = some (.string ⟨#[51, 46, 49]⟩) ∧ W.cell? ⟨g12, 2, none⟩ = some (.int .i64 2) ∧ W.cell? ⟨g12, 3, none⟩ = some (.int .i64 0) ∧ W.cell? ⟨g12, 4, none⟩ = some (.string ⟨#[]⟩) ∧ W.cell? ⟨g12, 5, none⟩ = some (.string cv) ∧ W.cell? ⟨g12, 6, none⟩ = some (.bool cb) ∧ W.cell? ⟨g13, 0, none⟩ = some (.int .i64 11) ∧ W.cell? ⟨g13, 1, none⟩ = some (.string ⟨#[51, 46, 49]⟩) ∧ W.cell? ⟨g13, 2, none⟩ = some (.int .i64 2) ∧ W.cell? ⟨g13, 3, none⟩ = some (.int .i64 0) ∧ W.cell? ⟨g13, 4, none⟩ = some (.string ⟨#[]⟩) ∧ W.cell? ⟨g13, 5, none⟩ = some (.string cv) ∧ W.cell? ⟨g13, 6, none⟩ = some (.bool cb)) wc := ⟨hHeld2.1, hHeld2.2.1, hHeld2.2.2.1, hHeld2.2.2.2.1, hHeld2.2.2.2.2.1, hHeld2.2.2.2.2.2.1, hHeld2.2.2.2.2.2.2, t0, t1, t2, t3, t4, t5, t6⟩
                    clear hK K hHeld hHeld2 hs t0 t1 t2 t3 t4 t5 t6
                    try simp only [Act.put, List.setIfInBounds_toArray, List.set_cons_zero, List.set_cons_succ]
                    refine wpAnyH_take (i := 12) (v := ?_) rfl (by kernel_rfl) (by kernel_rfl) (by kernel_rfl) (fun _ _ _ h => h) (Or.inl ⟨by rfl, ?_⟩) (by assumption) ?_
                    rotate_left
                    · (intro wx hSw; (try dsimp only at hSw); go_simp <;> with_reducible rfl)
                    try simp only [Act.put, List.setIfInBounds_toArray, List.set_cons_zero, List.set_cons_succ]
                    refine wpAnyH_take (i := 13) (v := ?_) rfl (by kernel_rfl) (by kernel_rfl) (by kernel_rfl) (fun _ _ _ h => h) (Or.inl ⟨by rfl, ?_⟩) (by assumption) ?_
                    rotate_left
                    · (intro wx hSw; (try dsimp only at hSw); go_simp <;> with_reducible rfl)
                    try simp only [Act.put, List.setIfInBounds_toArray, List.set_cons_zero, List.set_cons_succ]
                    refine wpAnyH_take (i := 18) (v := ?_) rfl (by kernel_rfl) (by kernel_rfl) (by kernel_rfl) (fun _ _ _ h => h) (Or.inl ⟨by rfl, ?_⟩) (by assumption) ?_
                    rotate_left
                    · (intro wx hSw; (try dsimp only at hSw); go_simp <;> with_reducible rfl)
                    try simp only [Act.put, List.setIfInBounds_toArray, List.set_cons_zero, List.set_cons_succ]
                    refine wpAnyH_take (i := 19) (v := ?_) rfl (by kernel_rfl) (by kernel_rfl) (by kernel_rfl) (fun _ _ _ h => h) (Or.inl ⟨by rfl, ?_⟩) (by assumption) ?_
                    rotate_left
                    · (intro wx hSw; (try dsimp only at hSw); go_simp <;> with_reducible rfl)
                    try simp only [Act.put, List.setIfInBounds_toArray, List.set_cons_zero, List.set_cons_succ]
                    refine wpAnyH_done (by kernel_rfl) ?_ _
                    clear hHeld3
                    all_goals
                      clear S0 HC2
                      go_wp2
                      go_roundg 0
                      case measure => have := Hj.out; omega
                      case rel => exact ⟨1, by omega, by go_num, Tc.out⟩
                  · obtain rfl : j = nw := by omega
                    have HF : Hid (Below w.heap.size w wr) := HB10.out.trans (T3x.out.below.mono HB10.out.size)
                    go_wp2
                    go_ret
                    exact ⟨rfl, HF.out⟩
end Go.Proofs.YtemmeopaihmlcaaGreatDoor
