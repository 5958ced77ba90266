/- TerminalSessions: the walk. -/
import Derived.Test.YtmknhokjpmjkkaaDoorKnown
import Derived.Test.YtmknhokjpmjkkaaDoorTrue
namespace Go.Proofs.YtmknhokjpmjkkaaDoor
open Go.RowKit
attribute [local go_sem ↓] Go.wp_at_zero Go.wp_at_succ

theorem s_range : inRange 2 0 = true := by decide +kernel
theorem valid9 : validB ⟨#[57]⟩ = true := by decide +kernel
theorem lineX : lineE ⟨#[120]⟩ = 0 := by decide +kernel
theorem sz_one (b : UInt8) : (⟨#[b]⟩ : ByteArray).size = 1 := rfl
theorem sz_zero : (⟨#[]⟩ : ByteArray).size = 0 := rfl

theorem begin_bad {l : ByteArray} (t : TermT) (h : l.size = 0 ∨ validB l = false) : (opBegin l t).2 = 12 ∧ stepT (opBegin l) t = t := by
  have e : opBegin l t = (t, 12) := by unfold opBegin; rw [if_pos h]
  simp [stepT, e]
theorem begin_busy {l : ByteArray} (t : TermT) (h1 : l.size ≠ 0) (h2 : validB l = true) (h3 : t.session.size ≠ 0) : (opBegin l t).2 = 19 ∧ stepT (opBegin l) t = t := by simp [stepT, opBegin, h1, h2, h3]
theorem begin_ok {l : ByteArray} (t : TermT) (h1 : l.size ≠ 0) (h2 : validB l = true) (h3 : t.session.size = 0) : (opBegin l t).2 = 0 ∧ stepT (opBegin l) t = ⟨t.epoch, l, [], ⟨#[]⟩⟩ := by simp [stepT, opBegin, h1, h2, h3]
theorem add_none {l : ByteArray} (t : TermT) (h1 : lineE l = 0) (h3 : t.session.size = 0) : (opAdd l t).2 = 10 ∧ stepT (opAdd l) t = t := by simp [stepT, opAdd, h1, h3]
theorem add_ok {l : ByteArray} (t : TermT) (h1 : lineE l = 0) (h3 : t.session.size ≠ 0) (h4 : t.typed.length < 16) : (opAdd l t).2 = 0 ∧ stepT (opAdd l) t = ⟨t.epoch, t.session, t.typed ++ [l], showS t.screen (l ++ ⟨#[10]⟩)⟩ := by
  have : ¬ 16 ≤ t.typed.length := by omega
  simp [stepT, opAdd, h1, h3, this]
theorem end_bad {l : ByteArray} (t : TermT) (h : t.session ≠ l) : (opEnd l t).2 = 10 ∧ stepT (opEnd l) t = t := by simp [stepT, opEnd, h]
theorem end_ok {l : ByteArray} (t : TermT) (h0 : l.size ≠ 0) (h : t.session = l) : (opEnd l t).2 = 0 ∧ stepT (opEnd l) t = ⟨t.epoch, ⟨#[]⟩, [], t.screen⟩ := by simp [stepT, opEnd, h0, h]
theorem take_none {l : ByteArray} (t : TermT) (h : t.session.size = 0 ∨ withinB l t.session = false) : (opTake l t).2 = 10 ∧ stepT (opTake l) t = t ∧ readL l t = ⟨#[]⟩ := by
  have e : opTake l t = (t, 10) := by unfold opTake; rw [if_pos h]
  simp [stepT, readL, e]
theorem take_ok {l : ByteArray} (t : TermT) (h1 : t.session.size ≠ 0) (h2 : withinB l t.session = true) (h3 : t.typed.length ≠ 0) : (opTake l t).2 = 0 ∧ stepT (opTake l) t = ⟨t.epoch, t.session, t.typed.drop 1, t.screen⟩ ∧ readL l t = t.typed.getD 0 ⟨#[]⟩ := by simp [stepT, readL, opTake, h1, h2, h3]

set_option maxRecDepth 100000 in
set_option maxHeartbeats 4000000 in
theorem sessions_any (a b c : ByteArray) (w : World) (hu : Usages w) (ha : a.size ≤ 9223372036854775807) (hb : b.size ≤ 9223372036854775807) (hc : c.size ≤ 9223372036854775807) :
    Calls Tryd.prog 6 #[.string a, .string b, .string c] w (TruePost w) := by
  have Hu := Lib.hid hu; clear hu
  by_cases hlen : 100 < a.size ∨ 100 < b.size ∨ 100 < c.size
  · have hways : 100 < a.size ∨ (¬ 100 < a.size ∧ 100 < b.size) ∨ (¬ 100 < a.size ∧ ¬ 100 < b.size ∧ 100 < c.size) := by omega
    clear hlen
    rcases hways with h1 | ⟨h1, h2⟩ | ⟨h1, h2, h3⟩
    all_goals
      go_enter Tryd.func6, Tryd.ntmps6
      go_wp2_with fail
      refine (known_any _ Hu.out).mono ?_
      rintro e w1 ⟨rfl, hb1⟩
      have Hb1 := Lib.hid hb1; clear hb1
      go_wp2_with fail
      refine (known_any _ (Hu.out.below Hb1.out Hu.out.pos)).mono ?_
      rintro e w2 ⟨rfl, hb2⟩
      have Hb2 := Lib.hid hb2; clear hb2
      go_wp2
      go_ret
      exact ⟨rfl, Hb1.out.trans (Hb2.out.mono Hb1.out.size)⟩
  · have h1 : ¬ 100 < a.size := by omega
    have h2 : ¬ 100 < b.size := by omega
    have h3 : ¬ 100 < c.size := by omega
    clear hlen
    go_enter Tryd.func6, Tryd.ntmps6
    go_wp2_with fail
    refine (known_any _ Hu.out).mono ?_
    rintro e w1 ⟨rfl, hb1⟩
    have Hb1 := Lib.hid hb1; clear hb1
    have Hu1 := Lib.hid (Hu.out.below Hb1.out Hu.out.pos)
    go_wp2_with fail
    refine (shNew w1 Hu1.out 2 0 s_range).mono ?_
    rintro e w2 ⟨rfl, hnew⟩
    have Hnew := Lib.hid hnew; clear hnew
    go_wp2_with fail
    refine Hnew.out.mono ?_
    rintro e w3 ⟨rfl, s0⟩
    clear Hnew
    have S0 := Lib.hid s0; clear s0
    by_cases hbad : a.size = 0 ∨ validB a = false
    · go_wp2_with fail
      refine (shBegin_is w1 w3 _ 2 0 0 (newT 0) _ a S0.out (by decide) (by omega) 12 (newT 0) (begin_bad _ hbad).1 (begin_bad _ hbad).2).mono ?_
      rintro e w4 ⟨rfl, s1, -⟩
      have S1 := Lib.hid s1; clear s1 S0
      cases hva : validB a with
      | false =>
        clear hbad
        go_wp2_with fail
        refine (valid_is a _ (by omega) hva _).mono ?_
        rintro e w5 ⟨rfl, hb5⟩
        have S2 := Lib.hid (S1.out.later hb5); clear hb5 S1
        go_wp2_with fail
        refine (shType_is w1 w5 _ 2 0 1 (newT 0) _ ⟨#[120]⟩ S2.out (by decide) (Nat.le_trans (sz1 _).1 le46) 10 (newT 0) (add_none _ lineX sz_zero).1 (add_none _ lineX sz_zero).2).mono ?_
        rintro e w6 ⟨rfl, s3, -⟩
        have S3 := Lib.hid s3.below; clear s3 S2
        go_wp2
        go_ret
        exact ⟨rfl, Hb1.out.trans (S3.out.mono Hb1.out.size)⟩
      | true =>
        have h0 : a.size = 0 := by rcases hbad with h | h; exact h; rw [hva] at h; cases h
        have h0' := empty_of h0
        clear hbad
        go_wp2_with fail
        refine (valid_is a _ (by omega) hva _).mono ?_
        rintro e w5 ⟨rfl, hb5⟩
        have S2 := Lib.hid (S1.out.later hb5); clear hb5 S1
        go_wp2_with fail
        refine (shType_is w1 w5 _ 2 0 1 (newT 0) _ ⟨#[120]⟩ S2.out (by decide) (Nat.le_trans (sz1 _).1 le46) 10 (newT 0) (add_none _ lineX sz_zero).1 (add_none _ lineX sz_zero).2).mono ?_
        rintro e w6 ⟨rfl, s3, -⟩
        have S3 := Lib.hid s3.below; clear s3 S2
        go_wp2
        go_ret
        exact ⟨rfl, Hb1.out.trans (S3.out.mono Hb1.out.size)⟩
    · have h0 : a.size ≠ 0 := fun h => hbad (.inl h)
      have hva : validB a = true := by cases h : validB a with
        | true => rfl
        | false => exact absurd (.inr h) hbad
      have h0' := nonempty_of h0
      clear hbad
      have hb0 := begin_ok (newT 0) h0 hva sz_zero
      have hb9 := begin_busy (l := ⟨#[57]⟩) (⟨0, a, [], ⟨#[]⟩⟩ : TermT) (by rw [sz_one]; decide) valid9 h0
      have hadd := add_ok (⟨0, a, [], ⟨#[]⟩⟩ : TermT) lineX h0 (Nat.zero_lt_succ _)
      have Hb0 := Lib.hid hb0; clear hb0
      have Hb9 := Lib.hid hb9; clear hb9
      have Hadd := Lib.hid hadd; clear hadd
      go_wp2_with fail
      refine (shBegin_is w1 w3 _ 2 0 0 (newT 0) _ a S0.out (by decide) (by omega) 0 _ Hb0.out.1 Hb0.out.2).mono ?_
      rintro e w4 ⟨rfl, s1, -⟩
      have S1 := Lib.hid s1; clear s1 S0
      go_wp2_with fail
      refine (valid_is a _ (by omega) hva _).mono ?_
      rintro e w5 ⟨rfl, hb5⟩
      have S2 := Lib.hid (S1.out.later hb5); clear hb5 S1
      go_wp2_with fail
      refine (shBegin_is w1 w5 _ 2 0 1 _ _ ⟨#[57]⟩ S2.out (by decide) (sz1 _).2.1 19 _ Hb9.out.1 Hb9.out.2).mono ?_
      rintro e w6 ⟨rfl, s3, -⟩
      have S3 := Lib.hid s3; clear s3 S2
      go_wp2_with fail
      refine (shType_is w1 w6 _ 2 0 2 _ _ ⟨#[120]⟩ S3.out (by decide) (Nat.le_trans (sz1 _).1 le46) 0 _ Hadd.out.1 Hadd.out.2).mono ?_
      rintro e w7 ⟨rfl, s4, -⟩
      obtain ⟨sc, S4⟩ : ∃ sc, Hid (SH w1 w7 (w1.heap.size + 3) 2 0 3 ⟨0, a, [⟨#[120]⟩], sc⟩ (fun _ => False)) := ⟨_, s4⟩
      clear s4 S3 Hb0 Hb9 Hadd
      obtain ⟨q, ls, x, hq, hst, hrl, hwq⟩ : ∃ (q : Nat) (ls : List ByteArray) (x : ByteArray), (opTake c ⟨0, a, [⟨#[120]⟩], sc⟩).2 = q ∧ stepT (opTake c) ⟨0, a, [⟨#[120]⟩], sc⟩ = ⟨0, a, ls, sc⟩ ∧ readL c ⟨0, a, [⟨#[120]⟩], sc⟩ = x ∧ ((withinB c a = true ∧ q = 0) ∨ (withinB c a = false ∧ q = 10)) := by
        cases hw : withinB c a with
        | true =>
          have := take_ok (l := c) ⟨0, a, [⟨#[120]⟩], sc⟩ h0 hw (by simp)
          exact ⟨0, _, _, this.1, this.2.1, this.2.2, .inl ⟨rfl, rfl⟩⟩
        | false =>
          have := take_none (l := c) ⟨0, a, [⟨#[120]⟩], sc⟩ (.inr hw)
          exact ⟨10, _, _, this.1, this.2.1, this.2.2, .inr ⟨rfl, rfl⟩⟩
      have Hq := Lib.hid hq; clear hq
      have Hst := Lib.hid hst; clear hst
      have Hrl := Lib.hid hrl; clear hrl
      go_wp2_with fail
      refine (shRead_is w1 w7 _ 2 0 3 _ _ c S4.out (by decide) (by omega) q _ x Hq.out Hst.out Hrl.out).mono ?_
      rintro e w8 ⟨rfl, s5, -⟩
      have S5 := Lib.hid s5; clear s5 S4 Hq Hst Hrl
      by_cases hab : a = b
      · subst hab
        have He := Lib.hid (end_ok (l := a) ⟨0, a, ls, sc⟩ h0 rfl)
        go_wp2_with fail
        refine (shEnd_is w1 w8 _ 2 0 4 _ _ a S5.out (by decide) 0 _ He.out.1 He.out.2).mono ?_
        rintro e w9 ⟨rfl, s6, -⟩
        have S6 := Lib.hid s6; clear s6 S5 He
        have Ht := Lib.hid (take_none (l := a) ⟨0, ⟨#[]⟩, [], sc⟩ (.inl sz_zero))
        have Hb9 := Lib.hid (begin_ok (l := ⟨#[57]⟩) ⟨0, ⟨#[]⟩, [], sc⟩ (by rw [sz_one]; decide) valid9 sz_zero)
        rcases hwq with ⟨hw, rfl⟩ | ⟨hw, rfl⟩
        all_goals
          go_wp2_with fail
          refine (within_is c a _ (by omega) (by omega) hw _).mono ?_
          rintro e w10 ⟨rfl, hb10⟩
          have S7 := Lib.hid (S6.out.later hb10); clear hb10 S6
          go_wp2_with fail
          refine (shRead_is w1 w10 _ 2 0 5 _ _ a S7.out (by decide) (by omega) 10 _ _ Ht.out.1 Ht.out.2.1 Ht.out.2.2).mono ?_
          rintro e w11 ⟨rfl, s8, -⟩
          have S8 := Lib.hid s8; clear s8 S7
          go_wp2_with fail
          refine (shBegin_is w1 w11 _ 2 0 6 _ _ ⟨#[57]⟩ S8.out (by decide) (sz1 _).2.1 0 _ Hb9.out.1 Hb9.out.2).mono ?_
          rintro e w12 ⟨rfl, s9, -⟩
          have S9 := Lib.hid s9.below; clear s9 S8
          go_wp2
          go_ret
          exact ⟨rfl, Hb1.out.trans (S9.out.mono Hb1.out.size)⟩
      · have hab' : (a.toList == b.toList) = false := by rw [str_beq]; simp [hab]
        have He := Lib.hid (end_bad (l := b) ⟨0, a, ls, sc⟩ hab)
        have He2 := Lib.hid (end_ok (l := a) ⟨0, a, ls, sc⟩ h0 rfl)
        clear hab
        go_wp2_with fail
        refine (shEnd_is w1 w8 _ 2 0 4 _ _ b S5.out (by decide) 10 _ He.out.1 He.out.2).mono ?_
        rintro e w9 ⟨rfl, s6, -⟩
        have S6 := Lib.hid s6; clear s6 S5 He
        have Ht := Lib.hid (take_none (l := a) ⟨0, ⟨#[]⟩, [], sc⟩ (.inl sz_zero))
        have Hb9 := Lib.hid (begin_ok (l := ⟨#[57]⟩) ⟨0, ⟨#[]⟩, [], sc⟩ (by rw [sz_one]; decide) valid9 sz_zero)
        rcases hwq with ⟨hw, rfl⟩ | ⟨hw, rfl⟩
        all_goals
          go_wp2_with fail
          refine (within_is c a _ (by omega) (by omega) hw _).mono ?_
          rintro e w10 ⟨rfl, hb10⟩
          have S7 := Lib.hid (S6.out.later hb10); clear hb10 S6
          go_wp2_with fail
          refine (shEnd_is w1 w10 _ 2 0 5 _ _ a S7.out (by decide) 0 _ He2.out.1 He2.out.2).mono ?_
          rintro e w13 ⟨rfl, s10, -⟩
          have S10 := Lib.hid s10; clear s10 S7
          go_wp2_with fail
          refine (shRead_is w1 w13 _ 2 0 6 _ _ a S10.out (by decide) (by omega) 10 _ _ Ht.out.1 Ht.out.2.1 Ht.out.2.2).mono ?_
          rintro e w11 ⟨rfl, s8, -⟩
          have S8 := Lib.hid s8; clear s8 S10
          go_wp2_with fail
          refine (shBegin_is w1 w11 _ 2 0 7 _ _ ⟨#[57]⟩ S8.out (by decide) (sz1 _).2.1 0 _ Hb9.out.1 Hb9.out.2).mono ?_
          rintro e w12 ⟨rfl, s9, -⟩
          have S9 := Lib.hid s9.below; clear s9 S8
          go_wp2
          go_ret
          exact ⟨rfl, Hb1.out.trans (S9.out.mono Hb1.out.size)⟩

end Go.Proofs.YtmknhokjpmjkkaaDoor
