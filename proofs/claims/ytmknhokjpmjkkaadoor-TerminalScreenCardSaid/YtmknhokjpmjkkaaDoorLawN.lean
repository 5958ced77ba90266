/- TerminalScreen: the walk. -/
import Derived.Test.YtmknhokjpmjkkaaDoorLawM
import Derived.BigQuiet
import Derived.BigRegion
namespace Go.Proofs.YtmknhokjpmjkkaaDoor
open Go.RowKit
attribute [local go_sem ↓] Go.wp_at_zero Go.wp_at_succ

/-- The last 2048 bytes. -/
def tailS (s : ByteArray) : ByteArray := s.extract (s.size - 2048) s.size
theorem ba_ext {a b : ByteArray} (h : a.data.toList = b.data.toList) : a = b := by
  cases a; cases b; simp at h; simp [h]
theorem list_append (a b : ByteArray) : (a ++ b).data.toList = a.data.toList ++ b.data.toList := by rw [ByteArray.data_append]; simp
theorem list_extract (a : ByteArray) (i j : Nat) : (a.extract i j).data.toList = (a.data.toList.drop i).take (j - i) := by
  rw [ByteArray.data_extract, Array.toList_extract, List.extract_eq_take_drop]
theorem list_size (a : ByteArray) : a.data.toList.length = a.size := by rw [Array.length_toList]; rfl
theorem list_tail (a : ByteArray) : (tailS a).data.toList = a.data.toList.drop (a.size - 2048) := by
  unfold tailS
  rw [list_extract, List.take_of_length_le]
  rw [List.length_drop, list_size]
  omega
theorem showS_list (a b : ByteArray) : (showS a b).data.toList = (a.data.toList ++ b.data.toList).drop (a.size + b.size - 2048) := by
  unfold showS
  rw [ByteArray.size_append]
  split
  · rw [list_extract, list_append, List.take_of_length_le]
    rw [List.length_drop, List.length_append, list_size, list_size]
    omega
  · rename_i h
    rw [list_append, show a.size + b.size - 2048 = 0 by omega, List.drop_zero]
theorem showS_tail (a b : ByteArray) : showS (tailS a) b = tailS (a ++ b) := by
  apply ba_ext
  have hs : (tailS a).size = min a.size 2048 := by
    rw [← list_size, list_tail, List.length_drop, list_size]
    omega
  rw [showS_list, list_tail, list_tail, list_append, hs, ByteArray.size_append]
  rw [← List.drop_append_of_le_length (by rw [list_size]; omega), List.drop_drop, show a.size - 2048 + (min a.size 2048 + b.size - 2048) = a.size + b.size - 2048 by omega]
theorem tail_none (a b : ByteArray) (h : b.size = 0) : a ++ b = a := by
  apply ba_ext
  have hb : b.data.toList = [] := List.eq_nil_of_length_eq_zero (by rw [list_size]; exact h)
  rw [list_append, hb, List.append_nil]

/-- The relation of the loop. -/
def CInv (w1 wr : World) (k : Nat) (all : ByteArray) : Prop :=
  ∃ t, SH w1 wr (w1.heap.size + 3) 99 5 (k + 2) t (fun _ => False) ∧ t.session = ⟨#[51]⟩ ∧ t.screen = tailS all

theorem c_range : inRange 99 5 = true := by decide +kernel
def c1T : TermT := ⟨5, ⟨#[]⟩, [], ⟨#[98, 101, 102, 111, 114, 101]⟩⟩
def c2T : TermT := ⟨5, ⟨#[51]⟩, [], ⟨#[]⟩⟩
theorem c_show : showE ⟨#[98, 101, 102, 111, 114, 101]⟩ (newT 5) = 0 ∧ showT ⟨#[98, 101, 102, 111, 114, 101]⟩ (newT 5) = c1T := by decide +kernel
theorem c_begin : (opBegin ⟨#[51]⟩ c1T).2 = 0 ∧ stepT (opBegin ⟨#[51]⟩) c1T = c2T := by decide +kernel
theorem sz6 (a b c d e f : UInt8) : (⟨#[a, b, c, d, e, f]⟩ : ByteArray).size ≤ 35184372088832 := by
  have : (⟨#[a, b, c, d, e, f]⟩ : ByteArray).size = 6 := rfl
  rw [this]; decide
theorem shShow_is (w0 w : World) (b : Nat) (n e : Int) (N : Nat) (t : TermT) (G : Nat → Prop) (l : ByteArray) (s : SH w0 w b n e N t G) (hN : N < 1000000) (hl : l.size ≤ 35184372088832) (q : Nat) (t' : TermT) (h1 : showE l t = q) (h2 : showT l t = t') :
    Calls Tryd.prog 57 #[.pointer (some ⟨b, 0, none⟩), .int .i64 n, .int .i64 e, .string l] w (SPost w0 b n e (N + 1) t' G w (.int .i64 q)) := by
  subst h1 h2; exact shShow w0 w b n e N t G l s hN hl

theorem opShow_ok {l : ByteArray} (t : TermT) (hl : l.size ≤ 3000) : opShow l t = (⟨t.epoch, t.session, t.typed, showS t.screen l⟩, 0) := by
  unfold opShow
  rw [if_neg (by omega)]
theorem c_shown {w1 w5 : World} {k : Nat} {all l : ByteArray} {t : TermT} (hs : SH w1 w5 (w1.heap.size + 3) 99 5 (k + 2 + 1) (showT l t) (fun _ => False)) (hse : t.session = ⟨#[51]⟩) (hsc : t.screen = tailS all) (hl : l.size ≤ 3000) : CInv w1 w5 (k + 1) (all ++ l) := by
  refine ⟨_, hs, ?_, ?_⟩
  · unfold showT stepT
    rw [opShow_ok t hl]
    split
    · exact hse
    · exact hse
  · unfold showT stepT
    rw [opShow_ok t hl]
    split
    · rename_i h0
      rw [tail_none all l h0]; exact hsc
    · show showS t.screen l = _
      rw [hsc, showS_tail]
theorem c_zero {t : TermT} {l : ByteArray} (hl : l.size ≤ 3000) : showE l t = 0 := by
  unfold showE
  rw [opShow_ok t hl]
  split <;> rfl
theorem c_typed {w1 w5 : World} {k : Nat} {all l : ByteArray} {t : TermT} (hs : SH w1 w5 (w1.heap.size + 3) 99 5 (k + 2 + 1) (stepT (opAdd l) t) (fun _ => False)) (hse : t.session = ⟨#[51]⟩) (hsc : t.screen = tailS all) (hq : (opAdd l t).2 = 0) : CInv w1 w5 (k + 1) (all ++ l ++ ⟨#[10]⟩) := by
  refine ⟨_, hs, (add_good hq).2.trans hse, ?_⟩
  have e : (stepT (opAdd l) t).screen = showS t.screen (l ++ ⟨#[10]⟩) := by
    unfold stepT
    rw [if_pos hq]
    unfold opAdd at hq ⊢
    split at hq
    · rename_i h1
      exact absurd hq h1
    · rename_i h1
      split at hq
      · cases hq
      · rename_i h2
        split at hq
        · cases hq
        · rename_i h3
          rw [if_neg h1, if_neg h2, if_neg h3]
  rw [e, hsc, showS_tail, ByteArray.append_assoc]
theorem c_kept {w1 w5 : World} {k : Nat} {all l : ByteArray} {t : TermT} {q : Nat} (hs : SH w1 w5 (w1.heap.size + 3) 99 5 (k + 2 + 1) (stepT (opAdd l) t) (fun _ => False)) (hse : t.session = ⟨#[51]⟩) (hsc : t.screen = tailS all) (hq : (opAdd l t).2 = q) (h0 : q ≠ 0) : CInv w1 w5 (k + 1) all := by
  rw [add_bad hq h0] at hs
  exact ⟨_, hs, hse, hsc⟩

set_option maxRecDepth 100000 in
set_option maxHeartbeats 8000000 in
theorem screen_any (a : Option Addr) (n c : Nat) (ls : List ByteArray) (a' : Option Addr) (n' c' : Nat) (bs : List Bool) (w : World) (hu : Usages w) (hn : n ≤ 9223372036854775807) (hn' : n' ≤ 9223372036854775807) (hls : ∀ s ∈ ls, s.size ≤ 9223372036854775807) (hs : SSl w a n ls) (ho : OSl w a' n' bs) :
    Calls Tryd.prog 10 #[.slice a n c, .slice a' n' c'] w (TruePost w) := by
  have Hu := Lib.hid hu; clear hu
  have Hs := Lib.hid hs; clear hs
  have Ho := Lib.hid ho; clear ho
  have Hls := Lib.hid hls; clear hls
  by_cases hlen : 30 < n
  · go_enter Tryd.func10, Tryd.ntmps10
    go_wp2_with fail
    refine (known_any _ Hu.out).mono ?_
    rintro e w1 ⟨rfl, hb1⟩
    have Hb1 := Lib.hid hb1; clear hb1
    go_wp2_with fail
    refine (known_any _ (Hu.out.below Hb1.out Hu.out.pos)).mono ?_
    rintro e w2 ⟨rfl, hb2⟩
    have Hb2 := Lib.hid hb2; clear hb2
    go_wp2
    go_ret
    exact ⟨rfl, Hb1.out.trans (Hb2.out.mono Hb1.out.size)⟩
  · go_enter Tryd.func10, Tryd.ntmps10
    go_wp2_with fail
    refine (known_any _ Hu.out).mono ?_
    rintro e w1 ⟨rfl, hb1⟩
    have Hb1 := Lib.hid hb1; clear hb1
    have Hu1 := Lib.hid (Hu.out.below Hb1.out Hu.out.pos)
    go_wp2_with fail
    refine (shNew w1 Hu1.out 99 5 c_range).mono ?_
    rintro e w2 ⟨rfl, hnew⟩
    have Hnew := Lib.hid hnew; clear hnew
    go_wp2_with fail
    refine Hnew.out.mono ?_
    rintro e w3 ⟨rfl, s0⟩
    clear Hnew
    have S0 := Lib.hid s0; clear s0
    go_wp2_with fail
    refine (shShow_is w1 w3 _ 99 5 0 (newT 5) _ ⟨#[98, 101, 102, 111, 114, 101]⟩ S0.out (by decide) (sz6 _ _ _ _ _ _) 0 _ c_show.1 c_show.2).mono ?_
    rintro e w4 ⟨rfl, s1, -⟩
    have S1 := Lib.hid s1; clear s1 S0
    go_wp2_with fail
    refine (shBegin_is w1 w4 _ 99 5 1 c1T _ ⟨#[51]⟩ S1.out (by decide) (sz1 _).2.1 0 _ c_begin.1 c_begin.2).mono ?_
    rintro e w5 ⟨rfl, s2, -⟩
    have HI : Hid (CInv w1 w5 0 ⟨#[]⟩) := ⟨_, s2, rfl, rfl⟩
    clear s2 S1 Hu1
    go_wp2_with fail
    go_loopg [6, 7] n (fun gk av i wr => ∃ (k : Nat) (all : ByteArray), k + gk = n ∧ i = .int .i64 k ∧ av = .string all ∧ all.size ≤ 3001 * k ∧ Hid (CInv w1 wr k all))
    case atStart => exact ⟨0, ⟨#[]⟩, by omega, rfl, rfl, Nat.zero_le _, HI.out⟩
    case round =>
      clear HI
      obtain ⟨k, all, hk, rfl, rfl, hall, HI⟩ := hrel
      have Hkk := Lib.hid hk
      have hkn : k ≤ n := by omega
      clear hk
      obtain ⟨t, hs, hse, hsc⟩ := HI.out
      have HS := Lib.hid hs; clear hs
      have Hse := Lib.hid hse; clear hse
      have Hsc := Lib.hid hsc; clear hsc
      clear HI
      have HB : Hid (Below w.heap.size w wr) := Hb1.out.trans (HS.out.below.mono Hb1.out.size)
      by_cases hlt : k < n
      · obtain ⟨g, off, rfl, hc⟩ := (Hs.out.later HB.out).2 (by omega)
        have hck := hc k hlt
        clear hc
        have hlk : (ls.getD k ⟨#[]⟩).size ≤ 9223372036854775807 := Hls.out _ (getD_mem (by rw [Hs.out.1]; exact hlt))
        generalize hl : ls.getD k ⟨#[]⟩ = l at *
        clear hl
        go_upto_region 10 with fail
        go_cut [8] (fun v wx => ∃ s : ByteArray, v = .string s ∧ s.size ≤ 3000 ∧ ∃ j, wx = wr.drewN j)
        case first =>
          by_cases hbig : 3000 < l.size
          · go_quiet (fail)
            go_wp2
            go_meet
            exact ⟨_, rfl, by first | omega | (simp; omega), _, rfl⟩
          · go_quiet (fail)
            go_wp2
            go_meet
            exact ⟨_, rfl, by first | omega | (simp; omega), _, rfl⟩
        case rest =>
          obtain ⟨s, rfl, hs3, j, rfl⟩ := hcut
          clear hck hlk
          have HSd : Hid (SH w1 (wr.drewN j) (w1.heap.size + 3) 99 5 (k + 2) t (fun _ => False)) := HS.out.later (below_drewN (Below.refl _ _) _)
          have hrd : ∀ b, b = true ∨ b = false := fun b => by cases b <;> simp
          by_cases hr : k < n' ∧ bs.getD k false = true
          · obtain ⟨hr, hbit⟩ := hr
            obtain ⟨g2, off2, rfl, hc2⟩ := (Ho.out.later HB.out).2 (by omega)
            have hck : (wr.drewN j).cell? ⟨g2, off2 + k, none⟩ = some (.bool true) := by rw [← hbit]; exact hc2 k hr
            clear hc2 hbit
            obtain ⟨q, hq⟩ : ∃ q, (opAdd s t).2 = q := ⟨_, rfl⟩
            have Hq := Lib.hid hq; clear hq
            by_cases h0 : q = 0
            · subst h0
              go_wp2_with fail
              refine (shType_is w1 _ _ 99 5 (k + 2) t _ s HSd.out (by omega) (by omega) 0 _ Hq.out rfl).mono ?_
              rintro e w6 ⟨rfl, s6, -⟩
              have HI6 : Hid (CInv w1 w6 (k + 1) (all ++ s ++ ⟨#[10]⟩)) := c_typed s6 Hse.out Hsc.out Hq.out
              clear s6
              go_wp2
              go_roundg (n - (k + 1))
              case measure => have := Hkk.out; omega
              case rel => exact ⟨k + 1, _, by have := Hkk.out; omega, by go_num, rfl, by simp [sz_one]; omega, HI6.out⟩
            · have h0' : ((q : Int) == 0) = false := beq_eq_false_iff_ne.2 (by omega)
              have H0 := Lib.hid h0; clear h0
              go_wp2_with fail
              refine (shType_is w1 _ _ 99 5 (k + 2) t _ s HSd.out (by omega) (by omega) q _ Hq.out rfl).mono ?_
              rintro e w6 ⟨rfl, s6, -⟩
              have HI6 : Hid (CInv w1 w6 (k + 1) all) := c_kept s6 Hse.out Hsc.out Hq.out H0.out
              clear s6
              go_wp2
              go_roundg (n - (k + 1))
              case measure => have := Hkk.out; omega
              case rel => exact ⟨k + 1, _, by have := Hkk.out; omega, by go_num, rfl, by omega, HI6.out⟩
          · by_cases hr2 : k < n'
            · obtain ⟨g2, off2, rfl, hc2⟩ := (Ho.out.later HB.out).2 (by omega)
              have hck : (wr.drewN j).cell? ⟨g2, off2 + k, none⟩ = some (.bool false) := by
                have h1 : bs.getD k false = false := by
                  cases hb : bs.getD k false with
                  | false => rfl
                  | true => exact absurd ⟨hr2, hb⟩ hr
                rw [← h1]; exact hc2 k hr2
              clear hc2 hr
              go_wp2_with fail
              refine (shShow_is w1 _ _ 99 5 (k + 2) t _ s HSd.out (by omega) (by omega) 0 _ (c_zero hs3) rfl).mono ?_
              rintro e w6 ⟨rfl, s6, -⟩
              have HI6 : Hid (CInv w1 w6 (k + 1) (all ++ s)) := c_shown s6 Hse.out Hsc.out hs3
              clear s6
              go_wp2
              go_roundg (n - (k + 1))
              case measure => have := Hkk.out; omega
              case rel => exact ⟨k + 1, _, by have := Hkk.out; omega, by go_num, rfl, by simp; omega, HI6.out⟩
            · clear hr
              go_wp2_with fail
              refine (shShow_is w1 _ _ 99 5 (k + 2) t _ s HSd.out (by omega) (by omega) 0 _ (c_zero hs3) rfl).mono ?_
              rintro e w6 ⟨rfl, s6, -⟩
              have HI6 : Hid (CInv w1 w6 (k + 1) (all ++ s)) := c_shown s6 Hse.out Hsc.out hs3
              clear s6
              go_wp2
              go_roundg (n - (k + 1))
              case measure => have := Hkk.out; omega
              case rel => exact ⟨k + 1, _, by have := Hkk.out; omega, by go_num, rfl, by simp; omega, HI6.out⟩
      · have He := Lib.hid (end_ok (l := ⟨#[51]⟩) t (by rw [sz_one]; decide) Hse.out)
        go_wp2_with fail
        refine (shEnd_is w1 wr _ 99 5 (k + 2) t _ ⟨#[51]⟩ HS.out (by omega) 0 _ He.out.1 He.out.2).mono ?_
        rintro e w6 ⟨rfl, s6, -⟩
        have S6 := Lib.hid s6; clear s6
        go_wp2_with fail
        refine (shGet w1 w6 _ 99 5 (k + 2 + 1) _ _ S6.out (by omega)).mono ?_
        rintro e w7 ⟨a7, m7, c7, rfl, hrow7, hlie7, s7, hk7⟩
        have h0 : m7 = 0 := hrow7.sl.1.symm
        subst h0
        have Hlow7 : Hid (Below w.heap.size w w7) := Hb1.out.trans (s7.below.mono Hb1.out.size)
        clear hrow7 hlie7 hk7 s7
        generalize ht1 : t.epoch = tep at *
        generalize ht3 : t.screen = tsc at *
        have Hsc2 : Hid (tsc = tailS all) := Hsc.out
        clear ht1 ht3
        dsimp only
        go_upto_region 20 with fail
        by_cases hbig : 2048 < all.size
        · have hx : (tsc.toList == (all.extract (all.size - 2048) all.size).toList) = true := by rw [Hsc2.out]; exact beq_self_eq_true _
          go_quiet (fail)
          go_wp2
          go_ret
          exact ⟨rfl, Hlow7.out.trans (((below_drewN ((Below.refl _ _).alloc (Nat.le_refl _) _) _)).mono Hlow7.out.size)⟩
        · have hx : (tsc.toList == all.toList) = true := by
            have : tailS all = all := by apply ba_ext; rw [list_tail, show all.size - 2048 = 0 by omega, List.drop_zero]
            rw [Hsc2.out, this]; exact beq_self_eq_true _
          go_quiet (fail)
          go_wp2
          go_ret
          exact ⟨rfl, Hlow7.out.trans (((below_drewN ((Below.refl _ _).alloc (Nat.le_refl _) _) _)).mono Hlow7.out.size)⟩

end Go.Proofs.YtmknhokjpmjkkaaDoor
