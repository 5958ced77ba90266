/- SignalFamily: the walk. -/
import Derived.Test.YtemmeopaihmlcaaDoorFamA
import Derived.Test.YtemmeopaihmlcaaDoorSigEe
import Derived.Test.YtemmeopaihmlcaaDoorTrue
import Derived.Deep.QuietTactic
import Derived.Deep.CutRange
namespace Go.Proofs.YtemmeopaihmlcaaDoor
open Go.RowKit
attribute [local go_sem ↓] Go.wp_at_zero Go.wp_at_succ

/-- A text cut to at most 60 bytes. -/
def cut60 (s : ByteArray) : ByteArray := if (60 : Int) < (s.size : Int) then s.extract 0 60 else s
theorem cut60_size (s : ByteArray) : (cut60 s).size ≤ 60 := by
  unfold cut60
  split
  · rw [ByteArray.size_extract]; omega
  · omega

theorem zero_enc_size : (strOf (encRB ⟨0, 0, 0, 0, 0, 0, 0, 0, 0, 0, 0⟩)).size ≤ 65536 := encRB_size _
/-- The world when the view is made. -/
def FamPre (w : World) (t : ByteArray) (b : Nat) (w' : World) : Prop := Below w.heap.size w w' ∧ (validB t = true → SR w w' b 0 t (some ⟨0, 0, 0, 0, 0, 0, 0, 0, 0, 0, 0⟩) (fun _ => False))

theorem fam_ways (x1 x2 x3 b1 b2 : Bool) : (x1 = true ∧ (x1 || (b2 && x3) || (b1 && x2)) = true) ∨ (x1 = false ∧ b1 = true ∧ x2 = true ∧ (x1 || (b2 && x3) || (b1 && x2)) = true) ∨
    (x1 = false ∧ (b1 = false ∨ (b1 = true ∧ x2 = false)) ∧ b2 = true ∧ x3 = true ∧ (x1 || (b2 && x3) || (b1 && x2)) = true) ∨ (x1 = false ∧ (b1 = false ∨ (b1 = true ∧ x2 = false)) ∧ (b2 = false ∨ (b2 = true ∧ x3 = false)) ∧ (x1 || (b2 && x3) || (b1 && x2)) = false) := by
  cases x1 <;> cases x2 <;> cases x3 <;> cases b1 <;> cases b2 <;> simp
theorem near_send (w wa : World) (vb : Nat) (f t : ByteArray) (n : Int) (s : SR w wa vb 0 t (some ⟨0, 0, 0, 0, 0, 0, 0, 0, 0, 0, 0⟩) (fun _ => False)) (hf : validB f = true ∧ f.size ≤ 70368744177664) (ht : validB t = true ∧ t.size ≤ 70368744177664) (hn : 1 ≤ n ∧ n ≤ 7) (hnear : nearB f t = true) :
    Calls Tryd.prog 14 #[.pointer (some ⟨vb, 0, none⟩), .string f, .string t, .int .i64 n] wa fun r w' => r = .returned (.int .i64 0) ∧ Below w.heap.size w w' := by
  by_cases h4 : n = 4
  · exact (srSend_without w wa vb 0 t _ 0 0 0 0 0 0 0 0 0 0 0 s ht f n hf (by omega) hnear (by rw [h4]; decide +kernel)).mono fun _ _ h => ⟨h.1, h.2.1.below⟩
  · refine (srSend w wa vb 0 t _ 0 0 0 0 0 0 0 0 0 0 0 s ht (by decide) f n hf (by omega) hnear ?_ (orP 0 n) rfl ?_).mono fun _ _ h => ⟨h.1, h.2.1.below⟩
    all_goals
      rcases (by omega : n = 1 ∨ n = 2 ∨ n = 3 ∨ n = 5 ∨ n = 6 ∨ n = 7) with rfl | rfl | rfl | rfl | rfl | rfl
      all_goals decide +kernel

set_option maxRecDepth 100000 in
set_option maxHeartbeats 3200000 in
theorem family_in (s0 s1 f t : ByteArray) (n : Int) (w : World) (hu : Usages w) (hf : (60 : Int) < (s0.size : Int) ∧ s0.extract 0 60 = f ∨ ¬ (60 : Int) < (s0.size : Int) ∧ s0 = f) (ht : (60 : Int) < (s1.size : Int) ∧ s1.extract 0 60 = t ∨ ¬ (60 : Int) < (s1.size : Int) ∧ s1 = t)
    (hfs : f.size ≤ 60) (hts : t.size ≤ 60) (vf vt : Bool) (hvf : validB f = vf) (hvt : validB t = vt) :
    Calls Tryd.prog 3 #[.string s0, .string s1, .int .i64 n] w (TruePost w) := by
  have Hu := Lib.hid hu; clear hu
  have Hvf := Lib.hid hvf; clear hvf
  have Hvt := Lib.hid hvt; clear hvt
  have Hf := Lib.hid hf; clear hf
  have Ht := Lib.hid ht; clear ht
  go_enter Tryd.func3, Tryd.ntmps3
  go_upto_region 1 with fail
  go_cut [0, 1] from 16 to 25 (fun a b wx => a = .string f ∧ b = .string t ∧ ∃ j, wx = w.drewN j)
  case first =>
    have hf := Hf.out; have ht := Ht.out
    clear Hf Ht
    rcases hf with ⟨hf, ef⟩ | ⟨hf, rfl⟩ <;> rcases ht with ⟨ht, et⟩ | ⟨ht, rfl⟩
    all_goals go_quiet (fail)
    all_goals go_wp2
    all_goals
      go_meet
      case rel => exact ⟨rfl, rfl, _, rfl⟩
  case rest =>
    clear Hf Ht
    obtain ⟨rfl, rfl, j, rfl⟩ := hcut
    go_wp2_with fail
    refine (known33 _ (Hu.out.below (below_toDrewN (Below.refl _ _) j) Hu.out.pos)).mono ?_
    rintro e w1 ⟨rfl, hb⟩
    have HB1 : Hid (Below w.heap.size w w1) := (below_toDrewN (Below.refl _ _) j).trans hb
    clear hb
    go_wp2_with fail
    refine (stateNew_any w1).mono ?_
    rintro e w2 ⟨rfl, rfl⟩
    have Hbn := Lib.hid (baseN_empty w1)
    have HB2 : Hid (Below w1.heap.size w1 (w1.alloc (.cells #[.pointer none] 68))) := (Below.refl _ _).alloc (Nat.le_refl _) _
    obtain ⟨w2, hw2⟩ : ∃ w2, w2 = w1.alloc (.cells #[.pointer none] 68) := ⟨_, rfl⟩
    rw [← hw2] at Hbn HB2 ⊢
    clear hw2
    go_wp2_with fail
    refine (ofPend_any t w2).mono ?_
    rintro e w3 ⟨rfl, hb3⟩
    have Hbn3 := Lib.hid (Hbn.out.later hb3)
    have HB3 : Hid (Below w.heap.size w w3) := HB1.out.trans ((HB2.out.mono HB1.out.size).trans (hb3.mono (Nat.le_trans HB1.out.size HB2.out.size)))
    have HL3 : Hid (w2.heap.size ≤ w3.heap.size) := hb3.size
    clear hb3 Hbn HB2 HB1
    go_wp2_with fail
    refine (lEncodeR_any 0 0 0 0 0 0 0 0 0 0 0 w3 zero_ok).mono ?_
    rintro e w4 ⟨rfl, hb4⟩
    have Hbn4 := Lib.hid (Hbn3.out.later (hb4.mono HL3.out))
    have HB4 : Hid (Below w.heap.size w w4) := HB3.out.trans (hb4.mono HB3.out.size)
    have HL4 : Hid (w2.heap.size ≤ w4.heap.size) := Nat.le_trans HL3.out hb4.size
    clear hb4 Hbn3 HL3 HB3
    cases vt with
    | false =>
      go_wp2_with fail
      refine (stateWith_name w1.heap.size (ofPendN t) (strOf (encRB ⟨0, 0, 0, 0, 0, 0, 0, 0, 0, 0, 0⟩)) 12 w4 (by decide) (fun W hW => checkPend_bad t W (Hu.out.below (HB4.out.trans (hW.mono HB4.out.size)) Hu.out.pos) Hvt.out (by omega))).mono ?_
      rintro e w5 ⟨rfl, hb5⟩
      have Hbn5 := Lib.hid (((Hbn4.out.later (hb5.mono HL4.out)).up (Nat.le_trans HL4.out hb5.size)).ok)
      have HB5 : Hid (Below w.heap.size w w5) := HB4.out.trans (hb5.mono HB4.out.size)
      clear hb5 Hbn4 HL4 HB4
      go_wp2_with fail
      refine (viewNew_any w1.heap.size _ w5 (Hu.out.below HB5.out Hu.out.pos) Hbn5.out).mono ?_
      rintro e w6 ⟨rfl, hb6, -⟩
      have HB6 : Hid (Below w.heap.size w w6) := HB5.out.trans (hb6.mono HB5.out.size)
      generalize w5.heap.size + 2 = vb
      clear hb6 Hbn5 HB5
      obtain ⟨⟨p1, b1⟩, hp1⟩ : ∃ x, parentB f = x := ⟨_, rfl⟩
      obtain ⟨⟨p2, b2⟩, hp2⟩ : ∃ x, parentB t = x := ⟨_, rfl⟩
      have Hp1 := Lib.hid hp1; clear hp1
      have Hp2 := Lib.hid hp2; clear hp2
      go_wp2_with fail
      refine (parent_is f p1 b1 Hp1.out w6 (by omega)).mono ?_
      rintro e w7 ⟨rfl, hb7⟩
      have HB7 : Hid (Below w.heap.size w w7) := HB6.out.trans (hb7.mono HB6.out.size)
      clear hb7 HB6
      go_wp2_with fail
      refine (parent_is t p2 b2 Hp2.out w7 (by omega)).mono ?_
      rintro e w8 ⟨rfl, hb8⟩
      have HB8 : Hid (Below w.heap.size w w8) := HB7.out.trans (hb8.mono HB7.out.size)
      clear hb8 HB7
      go_wp2_with fail
      refine (valid_is f vf (by omega) Hvf.out w8).mono ?_
      rintro e w9 ⟨rfl, hb9⟩
      have HB9 : Hid (Below w.heap.size w w9) := HB8.out.trans (hb9.mono HB8.out.size)
      clear hb9 HB8
      cases vf with
      | false =>
        go_wp2_with fail
        refine (sSend_name w9 vb f t n (by omega) (by omega) (.inl Hvf.out)).mono ?_
        rintro e wa ⟨rfl, hba⟩
        have HBa : Hid (Below w.heap.size w wa) := HB9.out.trans (hba.mono HB9.out.size)
        clear hba HB9
        go_wp2_with fail
        go_ret
        exact ⟨rfl, HBa.out⟩
      | true =>
        go_wp2_with fail
        refine (valid_is t false (by omega) Hvt.out w9).mono ?_
        rintro e wa ⟨rfl, hba⟩
        have HBa : Hid (Below w.heap.size w wa) := HB9.out.trans (hba.mono HB9.out.size)
        clear hba HB9
        go_wp2_with fail
        refine (sSend_name wa vb f t n (by omega) (by omega) (.inr Hvt.out)).mono ?_
        rintro e wb ⟨rfl, hbb⟩
        have HBb : Hid (Below w.heap.size w wb) := HBa.out.trans (hbb.mono HBa.out.size)
        clear hbb HBa
        go_wp2_with fail
        go_ret
        exact ⟨rfl, HBb.out⟩
    | true =>
      go_wp2_with fail
      refine (baseWith (n := ofPendN t) (Hu.out.below HB4.out Hu.out.pos) Hbn4.out (by decide) (nameOk_pend ⟨Hvt.out, by omega⟩) (encRB_size ⟨0, 0, 0, 0, 0, 0, 0, 0, 0, 0, 0⟩)).mono ?_
      rintro e w5 ⟨sp5, rfl, hb5, hbn5⟩
      have Hbn5 := Lib.hid hbn5.ok
      have HB5 : Hid (Below w.heap.size w w5) := HB4.out.trans (hb5.mono HB4.out.size)
      clear hb5 hbn5 Hbn4 HL4 HB4
      go_wp2_with fail
      refine (viewNew_any sp5 _ w5 (Hu.out.below HB5.out Hu.out.pos) Hbn5.out).mono ?_
      rintro e w6 ⟨rfl, hb6, hv6⟩
      have HS6 : Hid (SR w w6 (w5.heap.size + 2) 0 t (some ⟨0, 0, 0, 0, 0, 0, 0, 0, 0, 0, 0⟩) (fun _ => False)) := sr_new HB5.out hb6 hv6 (by simp [setF]) zero_ok
      generalize w5.heap.size + 2 = vb at *
      clear hb6 hv6 Hbn5 HB5
      obtain ⟨⟨p1, b1⟩, hp1⟩ : ∃ x, parentB f = x := ⟨_, rfl⟩
      obtain ⟨⟨p2, b2⟩, hp2⟩ : ∃ x, parentB t = x := ⟨_, rfl⟩
      have Hnear : Hid (nearB f t = (decide (f = t) || (b2 && decide (p2 = f)) || (b1 && decide (p1 = t)))) := by
        show _ = _
        unfold nearB
        rw [hp1, hp2]
      have Hp1 := Lib.hid hp1; clear hp1
      have Hp2 := Lib.hid hp2; clear hp2
      go_wp2_with fail
      refine (parent_is f p1 b1 Hp1.out w6 (by omega)).mono ?_
      rintro e w7 ⟨rfl, hb7⟩
      have HS7 := Lib.hid (HS6.out.later hb7)
      clear hb7 HS6
      go_wp2_with fail
      refine (parent_is t p2 b2 Hp2.out w7 (by omega)).mono ?_
      rintro e w8 ⟨rfl, hb8⟩
      have HS8 := Lib.hid (HS7.out.later hb8)
      clear hb8 HS7 Hp1 Hp2
      go_wp2_with fail
      refine (valid_is f vf (by omega) Hvf.out w8).mono ?_
      rintro e w9 ⟨rfl, hb9⟩
      have HS9 := Lib.hid (HS8.out.later hb9)
      clear hb9 HS8
      cases vf with
      | false =>
        have HB9 := Lib.hid HS9.out.below
        clear HS9
        go_wp2_with fail
        refine (sSend_name w9 vb f t n (by omega) (by omega) (.inl Hvf.out)).mono ?_
        rintro e wa ⟨rfl, hba⟩
        have HBa : Hid (Below w.heap.size w wa) := HB9.out.trans (hba.mono HB9.out.size)
        clear hba HB9
        go_wp2_with fail
        go_ret
        exact ⟨rfl, HBa.out⟩
      | true =>
        go_wp2_with fail
        refine (valid_is t true (by omega) Hvt.out w9).mono ?_
        rintro e wa ⟨rfl, hba⟩
        have HSa := Lib.hid (HS9.out.later hba)
        clear hba HS9
        by_cases hn : 1 ≤ n ∧ n ≤ 7
        · have n1 : decide (n < 1) = false := by simp; omega
          have n2 : decide (7 < n) = false := by simp; omega
          have Hn := Lib.hid hn; clear hn
          have e1 := str_beq f t
          have e2 := str_beq p1 t
          have e3 := str_beq p2 f
          rw [← e1, ← e2, ← e3] at Hnear
          clear e1 e2 e3
          generalize hx1 : (f.toList == t.toList) = x1 at *
          generalize hx2 : (p1.toList == t.toList) = x2 at *
          generalize hx3 : (p2.toList == f.toList) = x3 at *
          rcases fam_ways x1 x2 x3 b1 b2 with ⟨rfl, hr⟩ | ⟨rfl, rfl, rfl, hr⟩ | ⟨rfl, hg, rfl, rfl, hr⟩ | ⟨rfl, hg, hh, hr⟩
          · have Hnr : Hid (nearB f t = true) := Hnear.out.trans hr
            clear Hnear hr
            go_wp2_with fail
            refine (near_send w wa vb f t n HSa.out ⟨Hvf.out, by omega⟩ ⟨Hvt.out, by omega⟩ Hn.out Hnr.out).mono ?_
            rintro e wb ⟨rfl, hbb⟩
            go_wp2_with fail
            go_ret
            exact ⟨rfl, hbb⟩
          · have Hnr : Hid (nearB f t = true) := Hnear.out.trans hr
            clear Hnear hr
            go_wp2_with fail
            refine (near_send w wa vb f t n HSa.out ⟨Hvf.out, by omega⟩ ⟨Hvt.out, by omega⟩ Hn.out Hnr.out).mono ?_
            rintro e wb ⟨rfl, hbb⟩
            go_wp2_with fail
            go_ret
            exact ⟨rfl, hbb⟩
          · have Hnr : Hid (nearB f t = true) := Hnear.out.trans hr
            clear Hnear hr
            rcases hg with rfl | ⟨rfl, rfl⟩
            · go_wp2_with fail
              refine (near_send w wa vb f t n HSa.out ⟨Hvf.out, by omega⟩ ⟨Hvt.out, by omega⟩ Hn.out Hnr.out).mono ?_
              rintro e wb ⟨rfl, hbb⟩
              go_wp2_with fail
              go_ret
              exact ⟨rfl, hbb⟩
            · go_wp2_with fail
              refine (near_send w wa vb f t n HSa.out ⟨Hvf.out, by omega⟩ ⟨Hvt.out, by omega⟩ Hn.out Hnr.out).mono ?_
              rintro e wb ⟨rfl, hbb⟩
              go_wp2_with fail
              go_ret
              exact ⟨rfl, hbb⟩
          · have Hnr : Hid (nearB f t = false) := Hnear.out.trans hr
            clear Hnear hr
            rcases hg with rfl | ⟨rfl, rfl⟩ <;> rcases hh with rfl | ⟨rfl, rfl⟩
            · go_wp2_with fail
              refine (sSend_denied wa vb f t n ⟨Hvf.out, by omega⟩ ⟨Hvt.out, by omega⟩ (by have := Hn.out; simp [sigB]; omega) Hnr.out).mono ?_
              rintro e wb ⟨rfl, hbb⟩
              have HBb : Hid (Below w.heap.size w wb) := HSa.out.below.trans (hbb.mono HSa.out.below.size)
              clear hbb
              go_wp2_with fail
              go_ret
              exact ⟨rfl, HBb.out⟩
            · go_wp2_with fail
              refine (sSend_denied wa vb f t n ⟨Hvf.out, by omega⟩ ⟨Hvt.out, by omega⟩ (by have := Hn.out; simp [sigB]; omega) Hnr.out).mono ?_
              rintro e wb ⟨rfl, hbb⟩
              have HBb : Hid (Below w.heap.size w wb) := HSa.out.below.trans (hbb.mono HSa.out.below.size)
              clear hbb
              go_wp2_with fail
              go_ret
              exact ⟨rfl, HBb.out⟩
            · go_wp2_with fail
              refine (sSend_denied wa vb f t n ⟨Hvf.out, by omega⟩ ⟨Hvt.out, by omega⟩ (by have := Hn.out; simp [sigB]; omega) Hnr.out).mono ?_
              rintro e wb ⟨rfl, hbb⟩
              have HBb : Hid (Below w.heap.size w wb) := HSa.out.below.trans (hbb.mono HSa.out.below.size)
              clear hbb
              go_wp2_with fail
              go_ret
              exact ⟨rfl, HBb.out⟩
            · go_wp2_with fail
              refine (sSend_denied wa vb f t n ⟨Hvf.out, by omega⟩ ⟨Hvt.out, by omega⟩ (by have := Hn.out; simp [sigB]; omega) Hnr.out).mono ?_
              rintro e wb ⟨rfl, hbb⟩
              have HBb : Hid (Below w.heap.size w wb) := HSa.out.below.trans (hbb.mono HSa.out.below.size)
              clear hbb
              go_wp2_with fail
              go_ret
              exact ⟨rfl, HBb.out⟩
        · have hor : n < 1 ∨ (¬ n < 1 ∧ 7 < n) := by omega
          have Hs : Hid (sigB n = false) := by
            show _ = _
            simp [sigB]; omega
          have HBa := Lib.hid HSa.out.below
          clear HSa hn
          rcases hor with hn | ⟨hn, hn2⟩
          all_goals
            go_wp2_with fail
            refine (sSend_range wa vb f t n ⟨Hvf.out, by omega⟩ ⟨Hvt.out, by omega⟩ Hs.out).mono ?_
            rintro e wb ⟨rfl, hbb⟩
            have HBb : Hid (Below w.heap.size w wb) := HBa.out.trans (hbb.mono HBa.out.size)
            clear hbb HBa
            go_wp2_with fail
            go_ret
            exact ⟨rfl, HBb.out⟩
theorem family_any (s0 s1 : ByteArray) (n : Int) (w : World) (hu : Usages w) : Calls Tryd.prog 3 #[.string s0, .string s1, .int .i64 n] w (TruePost w) :=
  family_in s0 s1 (cut60 s0) (cut60 s1) n w hu (by unfold cut60; by_cases h : (60 : Int) < (s0.size : Int) <;> simp [h]) (by unfold cut60; by_cases h : (60 : Int) < (s1.size : Int) <;> simp [h]) (cut60_size _) (cut60_size _) _ _ rfl rfl
end Go.Proofs.YtemmeopaihmlcaaDoor
