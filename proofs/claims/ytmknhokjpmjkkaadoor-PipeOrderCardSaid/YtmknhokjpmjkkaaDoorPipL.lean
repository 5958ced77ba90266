/- PipeEnds: the walk. -/
import Derived.Test.YtmknhokjpmjkkaaDoorPipK
import Derived.BigQuiet
import Derived.Deep.DeepCutAuto
namespace Go.Proofs.YtmknhokjpmjkkaaDoor
open Go.RowKit
attribute [local go_sem ↓] Go.wp_at_zero Go.wp_at_succ

def sideP (x : Bool) (n : Nat) : PipeT := if x = true then ⟨0, 1, n, ⟨#[]⟩⟩ else ⟨0, n, 1, ⟨#[]⟩⟩
theorem pe_ep : pEpochB 0 = true := by decide +kernel
theorem pe_make (x : Bool) : (if (none : Option PipeT).isSome = true then ((none : Option PipeT), 13, 0) else (some ⟨0, 1, 1, ⟨#[]⟩⟩, 0, 1)) = (some (sideP x 1), 0, 1) := by cases x <;> rfl
theorem pe_join (x : Bool) (n : Nat) (h1 : 1 ≤ n) (h2 : n < 64) : pStep (opJoin x) 0 (some (sideP x n)) = (some (sideP x (n + 1)), 0, 1) := by
  cases x with
  | true =>
    have e : opJoin true (sideP true n) = (⟨0, 1, n + 1, ⟨#[]⟩⟩, 0) := by
      simp only [opJoin, sideP, if_true]
      rw [if_neg (by omega), if_neg (by omega)]
    simp only [pStep, e]
    rw [if_neg (by simp [sideP]), if_neg (by simp), if_neg (by simp [sideP]; omega), if_neg (by simp)]
    rfl
  | false =>
    have e : opJoin false (sideP false n) = (⟨0, n + 1, 1, ⟨#[]⟩⟩, 0) := by
      simp only [opJoin, sideP, Bool.false_eq_true, if_false]
      rw [if_neg (by omega), if_neg (by omega)]
    simp only [pStep, e]
    rw [if_neg (by simp [sideP]), if_neg (by simp), if_neg (by simp [sideP]; omega), if_neg (by simp)]
    rfl
theorem pe_full (x : Bool) : pStep (opJoin x) 0 (some (sideP x 64)) = (some (sideP x 64), 9, 0) := by cases x <;> decide +kernel
theorem pe_leave (x : Bool) (n : Nat) (h1 : 1 ≤ n) : pStep (opLeave x) 0 (some (sideP x n)) = (some (sideP x (n - 1)), 0, 1) := by
  cases x with
  | true =>
    have e : opLeave true (sideP true n) = (⟨0, 1, (n : Int) - 1, ⟨#[]⟩⟩, 0) := by
      simp only [opLeave, sideP, if_true]
      rw [if_neg (by omega)]
    simp only [pStep, e]
    rw [if_neg (by simp [sideP]), if_neg (by simp), if_neg (by simp [sideP]; omega), if_neg (by simp), show ((n : Int) - 1) = ((n - 1 : Nat) : Int) by omega]
    rfl
  | false =>
    have e : opLeave false (sideP false n) = (⟨0, (n : Int) - 1, 1, ⟨#[]⟩⟩, 0) := by
      simp only [opLeave, sideP, Bool.false_eq_true, if_false]
      rw [if_neg (by omega)]
    simp only [pStep, e]
    rw [if_neg (by simp [sideP]), if_neg (by simp), if_neg (by simp [sideP]; omega), if_neg (by simp), show ((n : Int) - 1) = ((n - 1 : Nat) : Int) by omega]
    rfl
theorem pe_join0 (x : Bool) : pStep (opJoin x) 0 (some (sideP x 0)) = (some (sideP x 0), 20, 0) := by cases x <;> decide +kernel
theorem pe_leave0 (x : Bool) : pStep (opLeave x) 0 (some (sideP x 0)) = (some (sideP x 0), 20, 0) := by cases x <;> decide +kernel
theorem pe_other (x : Bool) : pStep (opLeave (!x)) 0 (some (sideP x 0)) = (none, 0, 1) := by cases x <;> decide +kernel
theorem pe_get (x : Bool) : pHas 0 (some (sideP x 0)) = (if x = true then ⟨0, 1, 0, ⟨#[]⟩⟩ else ⟨0, 0, 1, ⟨#[]⟩⟩, 0) := by cases x <;> rfl
theorem pe_none : pHas 0 none = (zeroP, 8) := rfl
/-- The pipe at some number of calls. -/
def AtMost (w0 w : World) (b M : Nat) (o : Option PipeT) : Prop := ∃ N, N ≤ M ∧ SP w0 w b N o (fun _ => False)

set_option maxRecDepth 100000 in
set_option maxHeartbeats 2000000 in
theorem ends_any (x : Bool) (n : Nat) (hn : n ≤ 255) (w : World) (hu : Usages w) : Calls Tryd.prog 12 #[.bool x, .int .u8 n] w (TruePost w) := by
  have Hu := Lib.hid hu; clear hu
  go_enter Tryd.func12, Tryd.ntmps12
  go_wp2_with fail
  refine (pKnown_any _ Hu.out).mono ?_
  rintro e w1 ⟨rfl, hb1⟩
  have Hb1 := Lib.hid hb1; clear hb1
  have Hu1 := Lib.hid (Hu.out.below Hb1.out Hu.out.pos)
  go_wp2_with fail
  refine (spNew w1 Hu1.out).mono ?_
  rintro e w2 ⟨rfl, hnew⟩
  have Hnew := Lib.hid hnew; clear hnew
  go_wp2_with fail
  refine Hnew.out.mono ?_
  rintro e w3 ⟨rfl, s0⟩
  clear Hnew Hu1
  have S0 := Lib.hid s0; clear s0
  go_wp2_with fail
  refine (one_any _).mono ?_
  rintro e w4 ⟨rfl, hb⟩
  have S1 := Lib.hid (S0.out.later hb); clear hb S0
  go_wp2_with fail
  refine (spMake w1 w4 _ 0 none _ 0 S1.out (by decide) pe_ep (some (sideP x 1)) 0 1 (pe_make x)).mono ?_
  rintro e w5 ⟨rfl, s, -⟩
  have A0 : Hid (AtMost w1 w5 (w1.heap.size + 3) 1 (some (sideP x 1))) := ⟨_, Nat.le_refl _, s⟩
  clear s S1
  go_wp2_with fail
  obtain ⟨k, hk, hk79⟩ : ∃ k : Nat, (n : Int) % 80 = (k : Int) ∧ k ≤ 79 := ⟨n % 80, by omega, by omega⟩
  rw [hk]
  clear hk
  go_loopg [7] k (fun gk i wr => ∃ j : Nat, j + gk = k ∧ i = .int .i64 j ∧ Hid (AtMost w1 wr (w1.heap.size + 3) (j + 1) (some (sideP x (min j 63 + 1)))))
  case atStart => exact ⟨0, by omega, rfl, A0.out⟩
  case round =>
    clear A0
    obtain ⟨j, hj, rfl, HA⟩ := hrel
    have Hj := Lib.hid hj
    have hjk : j ≤ k := by omega
    clear hj
    by_cases hlt : j < k
    · obtain ⟨N, hN, s⟩ := HA.out
      have S := Lib.hid s; clear s HA
      by_cases h63 : j < 63
      · have hst := pe_join x (min j 63 + 1) (by omega) (by omega)
        have Hst := Lib.hid hst; clear hst
        go_wp2_with fail
        refine (one_any _).mono ?_
        rintro e w6 ⟨rfl, hb⟩
        have S2 := Lib.hid (S.out.later hb); clear hb S
        go_wp2_with fail
        refine (spJoin w1 w6 _ N _ _ 0 S2.out (by omega) pe_ep x _ 0 1 Hst.out).mono ?_
        rintro e w7 ⟨rfl, s, -⟩
        have HA7 : Hid (AtMost w1 w7 (w1.heap.size + 3) (j + 1 + 1) (some (sideP x (min (j + 1) 63 + 1)))) := ⟨N + 1, by omega, by rw [show min (j + 1) 63 = min j 63 + 1 by omega]; exact s⟩
        clear s S2
        go_wp2
        go_roundg (k - (j + 1))
        case measure => have := Hj.out; omega
        case rel => exact ⟨j + 1, by have := Hj.out; omega, by go_num, HA7.out⟩
      · have Hst : Hid (pStep (opJoin x) 0 (some (sideP x (min j 63 + 1))) = (some (sideP x (min j 63 + 1)), 9, 0)) := by show _ = _; rw [show min j 63 + 1 = 64 by omega]; exact pe_full x
        go_wp2_with fail
        refine (one_any _).mono ?_
        rintro e w6 ⟨rfl, hb⟩
        have S2 := Lib.hid (S.out.later hb); clear hb S
        go_wp2_with fail
        refine (spJoin w1 w6 _ N _ _ 0 S2.out (by omega) pe_ep x _ 9 0 Hst.out).mono ?_
        rintro e w7 ⟨rfl, s, -⟩
        have HA7 : Hid (AtMost w1 w7 (w1.heap.size + 3) (j + 1 + 1) (some (sideP x (min (j + 1) 63 + 1)))) := ⟨N, by omega, by rw [show min (j + 1) 63 = min j 63 by omega]; exact s⟩
        clear s S2
        go_wp2
        go_roundg (k - (j + 1))
        case measure => have := Hj.out; omega
        case rel => exact ⟨j + 1, by have := Hj.out; omega, by go_num, HA7.out⟩
    · obtain rfl : j = k := by omega
      clear Hj hjk
      go_wp2_with fail
      go_loopg [9] (min j 63 + 1) (fun gk i wr => ∃ i' : Nat, i' + gk = min j 63 + 1 ∧ i = .int .i64 i' ∧ Hid (AtMost w1 wr (w1.heap.size + 3) (j + 1 + i') (some (sideP x (min j 63 + 1 - i')))))
      case atStart => exact ⟨0, by omega, rfl, HA.out⟩
      case round =>
        rename_i gk2 _
        clear HA
        obtain ⟨i, hi, rfl, HA⟩ := hrel
        have Hi := Lib.hid hi
        have him : i ≤ min j 63 + 1 := by omega
        clear hi
        by_cases hlt2 : i < min j 63 + 1
        · obtain ⟨N, hN, s⟩ := HA.out
          have S := Lib.hid s; clear s HA
          have hst := pe_leave x (min j 63 + 1 - i) (by omega)
          have Hst := Lib.hid hst; clear hst
          have hways : (j ≤ 63 ∧ i < j + 1) ∨ (¬ j ≤ 63 ∧ i < 64) := by omega
          rcases hways with ⟨h5, h6⟩ | ⟨h5, h6⟩
          all_goals
            go_wp2_with fail
            refine (one_any _).mono ?_
            rintro e w6 ⟨rfl, hb⟩
            have S2 := Lib.hid (S.out.later hb); clear hb S
            go_wp2_with fail
            refine (spLeave w1 w6 _ N _ _ 0 S2.out (by omega) pe_ep x _ 0 1 Hst.out).mono ?_
            rintro e w7 ⟨rfl, s, -⟩
            have HA7 : Hid (AtMost w1 w7 (w1.heap.size + 3) (j + 1 + (i + 1)) (some (sideP x (min j 63 + 1 - (i + 1))))) := ⟨N + 1, by omega, by rw [show min j 63 + 1 - (i + 1) = min j 63 + 1 - i - 1 by omega]; exact s⟩
            clear s S2
            go_wp2
            go_roundg (min j 63 + 1 - (i + 1))
            case measure => have := Hi.out; omega
            case rel => exact ⟨i + 1, by have := Hi.out; omega, by go_num, HA7.out⟩
        · obtain ⟨N, hN, s⟩ := HA.out
          rw [show min j 63 + 1 - i = 0 by omega] at s
          have S := Lib.hid s; clear s HA
          have hN2 : N < 900000 := by omega
          have hways : (j ≤ 63 ∧ ¬ i < j + 1) ∨ (¬ j ≤ 63 ∧ ¬ i < 64) := by omega
          rcases hways with ⟨h5, h6⟩ | ⟨h5, h6⟩
          all_goals
            go_wp2_with fail
            refine (one_any _).mono ?_
            rintro e w6 ⟨rfl, hb⟩
            have S2 := Lib.hid (S.out.later hb); clear hb S
            go_wp2_with fail
            refine (spGet w1 w6 _ N _ _ 0 S2.out pe_ep _ 0 (pe_get x)).mono ?_
            rintro e w7 ⟨rfl, s, -⟩
            have HX7 : Hid (∀ o, (w7.alloc o).heap[w7.heap.size]? = some o) := fun o => heap_alloc_new w7 o
            have S3 : Hid (∀ o, SP w1 (w7.alloc o) (w1.heap.size + 3) N (some (sideP x 0)) (fun k => k = w7.heap.size)) := fun o => s.fresh ((Below.refl _ _).alloc (Nat.le_refl _) _) (fun k hk => .inr (by subst hk; simp))
            clear s S2
            cases x
            all_goals
              simp only [pipeV, if_true, Bool.false_eq_true, if_false]
              go_wp2_with fail
              refine (one_any _).mono ?_
              rintro e w8 ⟨rfl, hb⟩
              have S4 := Lib.hid ((S3.out _).later hb)
              have HX8 := Lib.hid ((hb.block _ (by simp)).trans (HX7.out _))
              clear hb S3 HX7
              go_wp2_with fail
              refine (spJoin w1 w8 _ N _ _ 0 S4.out (by omega) pe_ep _ _ 20 0 (pe_join0 _)).mono ?_
              rintro e w9 ⟨rfl, s, hk⟩
              have S5 := Lib.hid s
              have HX9 := Lib.hid ((hk _ rfl).trans HX8.out)
              clear s hk S4 HX8
              go_wp2_with fail
              refine (one_any _).mono ?_
              rintro e w10 ⟨rfl, hb⟩
              have S6 := Lib.hid (S5.out.later hb)
              have HX10 := Lib.hid ((hb.block _ (lt_of_heap HX9.out)).trans HX9.out)
              clear hb S5 HX9
              go_wp2_with fail
              refine (spLeave w1 w10 _ (N + 0) _ _ 0 S6.out (by omega) pe_ep _ _ 20 0 (pe_leave0 _)).mono ?_
              rintro e w11 ⟨rfl, s, hk⟩
              have S7 := Lib.hid s
              have HX11 := Lib.hid ((hk _ rfl).trans HX10.out)
              clear s hk S6 HX10
              go_wp2_with fail
              refine (one_any _).mono ?_
              rintro e w12 ⟨rfl, hb⟩
              have S8 := Lib.hid (S7.out.later hb)
              have HX12 := Lib.hid ((hb.block _ (lt_of_heap HX11.out)).trans HX11.out)
              clear hb S7 HX11
              go_wp2_with fail
              refine (spLeave w1 w12 _ (N + 0 + 0) _ _ 0 S8.out (by omega) pe_ep _ none 0 1 (pe_other _)).mono ?_
              rintro e w13 ⟨rfl, s, hk⟩
              have S9 := Lib.hid s
              have HX13 := Lib.hid ((hk _ rfl).trans HX12.out)
              clear s hk S8 HX12
              go_wp2_with fail
              refine (one_any _).mono ?_
              rintro e w14 ⟨rfl, hb⟩
              have S10 := Lib.hid (S9.out.later hb)
              have HX14 := Lib.hid ((hb.block _ (lt_of_heap HX13.out)).trans HX13.out)
              clear hb S9 HX13
              go_wp2_with fail
              refine (spGet w1 w14 _ (N + 0 + 0 + 1) _ _ 0 S10.out pe_ep _ 8 pe_none).mono ?_
              rintro e w15 ⟨rfl, s, hk⟩
              have S11 : Hid (∀ o, SP w1 (w15.alloc o) (w1.heap.size + 3) (N + 0 + 0 + 1) none (fun k => k = w7.heap.size)) := fun o => s.later ((Below.refl _ _).alloc (Nat.le_refl _) _)
              have hX15 := (hk _ rfl).trans HX14.out
              have c1 := cell_of_heap hX15 1
              have c2 := cell_of_heap hX15 2
              have hlt15 := lt_of_heap hX15
              dsimp at c1 c2
              clear s hk S10 HX14 hX15
              simp only [pipeV, zeroP]
              go_wp2_with fail
              refine (one_any _).mono ?_
              rintro e w16 ⟨rfl, hb⟩
              have S12 := Lib.hid ((S11.out _).later hb)
              clear hb S11
              go_wp2_with fail
              refine (ofPipe_any _ _ _).mono ?_
              rintro e w17 ⟨rfl, hb⟩
              have S13 := Lib.hid (S12.out.later hb)
              clear hb S12
              go_wp2_with fail
              refine (spHas w1 w17 _ _ _ _ S13.out).mono ?_
              rintro e w18 ⟨rfl, s, -⟩
              have S14 := Lib.hid s.below
              clear s S13
              go_wp2
              go_ret
              exact ⟨rfl, Hb1.out.trans (S14.out.mono Hb1.out.size)⟩

end Go.Proofs.YtmknhokjpmjkkaaDoor
