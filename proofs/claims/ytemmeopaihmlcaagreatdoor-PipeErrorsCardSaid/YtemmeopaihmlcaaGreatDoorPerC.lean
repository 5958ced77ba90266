/- PipeErrors: the walk. -/
import Derived.Test.YtemmeopaihmlcaaGreatDoorPerB
import Derived.Test.YtemmeopaihmlcaaGreatDoorTrue
import Derived.Deep.QuietTactic
import Derived.Deep.CutRange
namespace Go.Proofs.YtemmeopaihmlcaaGreatDoor
open Go.RowKit
attribute [local go_sem ↓] Go.wp_at_zero Go.wp_at_succ

theorem pe_ways (s : ByteArray) (a b c : Int) (d : ByteArray) (f : Nat) (h : decP_ s = (⟨a, b, c, d⟩, f)) : (f = 0 ∧ a = 3 ∧ peQ s = 0) ∨ (f = 0 ∧ a ≠ 3 ∧ peQ s = 8) ∨ (f ≠ 0 ∧ peQ s = 8) := by
  unfold peQ
  rw [h]
  by_cases hf : f = 0
  · by_cases ha : a = 3
    · exact .inl ⟨hf, ha, by rw [if_neg]; simp [hf, ha]⟩
    · exact .inr (.inl ⟨hf, ha, by rw [if_pos]; exact .inr ha⟩)
  · exact .inr (.inr ⟨hf, by rw [if_pos]; exact .inl hf⟩)

set_option maxRecDepth 200000 in
set_option maxHeartbeats 6400000 in
theorem perrors_any (s : ByteArray) (ep nu : Int) (w : World) (hu : Usages w) :
    Calls Tryz.prog 6 #[.string s, .int .i64 ep, .int .i64 nu] w (TruePost w) := by
  have Hu := Lib.hid hu; clear hu
  go_enter Tryz.func6, Tryz.ntmps6
  go_wp2_with fail
  refine (pKnown_any _ Hu.out).mono ?_
  rintro e w1 ⟨rfl, hb⟩
  have HB1 := Lib.hid hb; clear hb
  by_cases hs : (100 : Int) < (s.size : Int)
  · go_wp2_with fail
    refine (pKnown_any _ (Hu.out.below HB1.out Hu.out.pos)).mono ?_
    rintro e w2 ⟨rfl, hb⟩
    have HB2 : Hid (Below w.heap.size w w2) := HB1.out.trans (hb.mono HB1.out.size)
    clear hb HB1
    go_wp2
    go_ret
    exact ⟨rfl, HB2.out⟩
  have Hs : Hid (s.size ≤ 100) := by show _ ≤ _; omega
  go_wp2_with fail
  refine (stateNew_any w1).mono ?_
  rintro e w2 ⟨rfl, rfl⟩
  have Hbn := Lib.hid (baseN_empty w1)
  have HB2 : Hid (Below w1.heap.size w1 (w1.alloc (.cells #[.pointer none] 117))) := (Below.refl _ _).alloc (Nat.le_refl _) _
  obtain ⟨w2, hw2⟩ : ∃ w2, w2 = w1.alloc (.cells #[.pointer none] 117) := ⟨_, rfl⟩
  rw [← hw2] at Hbn HB2 ⊢
  clear hw2 hs
  go_wp2_with fail
  refine (one_any w2).mono ?_
  rintro e w3 ⟨rfl, hb3⟩
  have Hbn3 := Lib.hid (Hbn.out.later hb3)
  have HB3 : Hid (Below w.heap.size w w3) := HB1.out.trans ((HB2.out.mono HB1.out.size).trans (hb3.mono (Nat.le_trans HB1.out.size HB2.out.size)))
  have HL3 : Hid (w2.heap.size ≤ w3.heap.size) := hb3.size
  clear hb3 Hbn HB2 HB1
  go_wp2_with fail
  refine (ofPipe_any _ _ w3).mono ?_
  rintro e w4 ⟨rfl, hb4⟩
  have Hbn4 := Lib.hid (Hbn3.out.later (hb4.mono HL3.out))
  have HB4 : Hid (Below w.heap.size w w4) := HB3.out.trans (hb4.mono HB3.out.size)
  clear hb4 Hbn3 HL3 HB3
  go_wp2_with fail
  refine (baseWith (n := ofPipe oneM 2) (Hu.out.below HB4.out Hu.out.pos) Hbn4.out (by decide) (nameOk_pipe one_valid one_size (by decide) (by decide)) (by have := Hs.out; omega)).mono ?_
  rintro e w5 ⟨sp5, rfl, hb5, hbn5⟩
  have Hbn5 := Lib.hid hbn5.ok
  have HB5 : Hid (Below w.heap.size w w5) := HB4.out.trans (hb5.mono HB4.out.size)
  clear hb5 hbn5 Hbn4 HB4
  go_wp2_with fail
  refine (peNew w w5 (Hu.out.below HB5.out Hu.out.pos) sp5 s HB5.out Hbn5.out).mono ?_
  rintro e w6 ⟨rfl, q6⟩
  have Q6 := Lib.hid q6
  clear q6 Hbn5 HB5
  generalize w5.heap.size + 2 = vb at *
  have hdec := rfDecode_any s w6 (by have := Hs.out; omega)
  rw [rDec_is] at hdec
  obtain ⟨⟨⟨a, b, c, d⟩, f⟩, hd⟩ : ∃ x, decP_ s = x := ⟨_, rfl⟩
  have Hways := Lib.hid (pe_ways s a b c d f hd)
  rw [hd] at hdec
  have Hdec := Lib.hid hdec
  clear hdec hd
  go_wp2_with fail
  refine Hdec.out.mono ?_
  rintro e w7 ⟨rfl, hb7⟩
  have Q7 := Lib.hid (Q6.out.later hb7)
  clear hb7 Q6 Hdec
  dsimp only [pipeV]
  go_upto_region 8 with fail
  have HT : Hid ((w7.alloc (.cells #[.int .i64 a, .int .i64 b, .int .i64 c, .string d] 63)).heap[w7.heap.size]? = some (.cells #[.int .i64 a, .int .i64 b, .int .i64 c, .string d] 63 (0, 0))) := World.alloc_heap_new w7 _
  have Q8 : Hid (QV w (w7.alloc (.cells #[.int .i64 a, .int .i64 b, .int .i64 c, .string d] 63)) vb (peV s) (fun k => k = w7.heap.size)) := Q7.out.fresh ((Below.refl _ _).alloc (Nat.le_refl _) _) (fun k hk => .inr (by subst hk; simp))
  clear Q7
  generalize w7.alloc (.cells #[.int .i64 a, .int .i64 b, .int .i64 c, .string d] 63) = w8 at *
  generalize w7.heap.size = T at *
  go_wp2_with fail
  refine (one_any w8).mono ?_
  rintro e w9 ⟨rfl, hb9⟩
  have Q9 := Lib.hid (Q8.out.later hb9)
  have HT9 := Lib.hid ((hb9.block _ (lt_of_heap HT.out)).trans HT.out)
  clear hb9 Q8 HT
  go_wp2_with fail
  have hg := qvGet Q9.out (m := oneM) (k := 2) 3 ((Seen.start s).ready1 Hs.out)
  rw [(Seen.start s).get] at hg
  have Hseen := Lib.hid (Seen.start s).seen
  generalize pSeen (peV s) oneM 2 3 = V1 at *
  obtain ⟨⟨a', b', c', d'⟩, hp⟩ : ∃ x, peP s = x := ⟨_, rfl⟩
  rw [hp] at hg
  have Hg := Lib.hid hg
  clear hg hp
  refine Hg.out.mono ?_
  rintro e w10 ⟨rfl, q10, hk10⟩
  have Q10 := Lib.hid q10
  have HT10 := Lib.hid ((hk10 T rfl).trans HT9.out)
  clear q10 hk10 Q9 HT9 Hg
  dsimp only [pipeV]
  go_upto_region 9 with fail
  have HB11 : Hid (Below w10.heap.size w10 (w10.alloc (.cells #[.int .i64 a', .int .i64 b', .int .i64 c', .string d'] 66))) := (Below.refl _ _).alloc (Nat.le_refl _) _
  generalize w10.alloc (.cells #[.int .i64 a', .int .i64 b', .int .i64 c', .string d'] 66) = w11 at *
  have Q11 := Lib.hid (Q10.out.later HB11.out)
  have HT11 := Lib.hid ((HB11.out.block _ (lt_of_heap HT10.out)).trans HT10.out)
  clear HB11 Q10 HT10
  go_wp2_with fail
  refine (one_any w11).mono ?_
  rintro e w12 ⟨rfl, hb12⟩
  have Q12 := Lib.hid (Q11.out.later hb12)
  have HT12 := Lib.hid ((hb12.block _ (lt_of_heap HT11.out)).trans HT11.out)
  clear hb12 Q11 HT11
  go_wp2_with fail
  have hg := qvMake Q12.out (m := oneM) (k := 2) 3 (Hseen.out.ready1 Hs.out)
  rw [Hseen.out.make] at hg
  have Hseen2 := Lib.hid (Hseen.out.next (ofPipe oneM 2))
  clear Hseen
  dsimp only at hg
  generalize avSeen V1 (ofPipe oneM 2) = V2 at *
  refine hg.mono ?_
  clear hg
  rintro e w13 ⟨rfl, q13, hk13⟩
  have Q13 := Lib.hid q13
  have hT13 := (hk13 T rfl).trans HT12.out
  have t0 : w13.cell? ⟨T, 0, none⟩ = some (.int .i64 a) := cell_of_heap hT13 0
  clear q13 hk13 Q12 HT12 hT13 V1
  have hwr : Hid (Calls Tryz.prog 20 #[.pointer (some ⟨vb, 0, none⟩)] w13 fun r w' => ∃ x cap, r = .returned (.slice x 0 cap) ∧ QV w w' vb V2 (fun k => k = T)) := by
    refine (qvWrites Q13.out).mono ?_
    rintro r w' ⟨v, cs, rfl, hr, hp, _, _, hq⟩
    rw [Hseen2.out.calls] at hp
    have he : cs = [] := List.Perm.eq_nil (show cs.Perm [] from hp)
    subst he
    obtain ⟨x, cap, rfl, _⟩ := hr
    exact ⟨x, cap, rfl, hq⟩
  clear Q13
  have hways := Hways.out
  clear Hways
  rcases hways with ⟨rfl, rfl, hq⟩ | ⟨rfl, ha, hq⟩ | ⟨hf, hq⟩
  case' inr.inl => have ha' : (a == 3) = false := beq_eq_false_iff_ne.2 ha
  case' inr.inl => clear ha
  case' inr.inr => have hf' : ((f : Int) == 0) = false := beq_eq_false_iff_ne.2 (by omega)
  case' inr.inr => clear hf
  all_goals
    rw [hq]
    clear hq
    go_wp2_with fail
    refine hwr.out.mono ?_
    rintro e w14 ⟨x, cap, rfl, q14⟩
    have Q14 := Lib.hid q14
    clear q14 hwr t0
    go_upto_region 13 with fail
    have HX : Hid ((w14.alloc (.cells #[.string ⟨#[53]⟩, .int .i64 nu] 60)).heap[w14.heap.size]? = some (.cells #[.string ⟨#[53]⟩, .int .i64 nu] 60 (0, 0))) := World.alloc_heap_new w14 _
    have Q15 : Hid (QV w (w14.alloc (.cells #[.string ⟨#[53]⟩, .int .i64 nu] 60)) vb V2 (fun k => k = w14.heap.size)) := Q14.out.fresh ((Below.refl _ _).alloc (Nat.le_refl _) _) (fun k hk => .inr (by subst hk; simp))
    clear Q14
    generalize w14.alloc (.cells #[.string ⟨#[53]⟩, .int .i64 nu] 60) = w15 at *
    generalize w14.heap.size = X at *
    have x0 : w15.cell? ⟨X, 0, none⟩ = some (.string ⟨#[53]⟩) := cell_of_heap HX.out 0
    have x1 : w15.cell? ⟨X, 1, none⟩ = some (.int .i64 nu) := cell_of_heap HX.out 1
    have hrd := qvRead Q15.out (m := fiveM) (k := nu) ep 1 (Hseen2.out.ready5 nu) (by decide)
    rw [Hseen2.out.read] at hrd
    generalize pReadB 1 V2 fiveM nu ep = rb at hrd
    generalize (pChange (opRead 1) V2 fiveM nu ep).1 = V3 at hrd
    go_wp2_with fail
    refine hrd.mono ?_
    clear hrd x0 x1
    rintro e w16 ⟨rfl, q16, hk16⟩
    have HE16 := Lib.hid q16.below
    have hX16 := (hk16 X rfl).trans HX.out
    have x0 : w16.cell? ⟨X, 0, none⟩ = some (.string ⟨#[53]⟩) := cell_of_heap hX16 0
    have x1 : w16.cell? ⟨X, 1, none⟩ = some (.int .i64 nu) := cell_of_heap hX16 1
    clear q16 hk16 Q15 HX hX16
    go_wp2_with fail
    refine (birth_any fiveM nu w16 (by decide)).mono ?_
    rintro e w17 ⟨rfl, hb17⟩
    have HE17 : Hid (Below w.heap.size w w17) := HE16.out.trans (hb17.mono HE16.out.size)
    clear hb17 HE16 x0 x1
    have hw3 : (peW nu ep = 2 ∧ birthB fiveM nu = 2) ∨ (peW nu ep = 2 ∧ birthB fiveM nu = 0 ∧ decide (ep < 0) = true) ∨ (peW nu ep = 2 ∧ birthB fiveM nu = 0 ∧ decide (ep < 0) = false ∧ decide (1073741824 < ep) = true) ∨ (peW nu ep = 8 ∧ birthB fiveM nu = 0 ∧ decide (ep < 0) = false ∧ decide (1073741824 < ep) = false) := by
      by_cases hk : 0 ≤ nu ∧ nu ≤ 1073741824
      · by_cases h1 : ep < 0
        · exact .inr (.inl ⟨(peW_ep hk (by omega)).1, (peW_ep hk (e := ep) (by omega)).2, decide_eq_true h1⟩)
        · by_cases h2 : 1073741824 < ep
          · exact .inr (.inr (.inl ⟨(peW_ep hk (by omega)).1, (peW_ep hk (e := ep) (by omega)).2, decide_eq_false h1, decide_eq_true h2⟩))
          · exact .inr (.inr (.inr ⟨(peW_ok hk (by omega)).1, (peW_ok hk (e := ep) (by omega)).2, decide_eq_false h1, decide_eq_false h2⟩))
      · exact .inl (peW_bad ep hk)
    rcases hw3 with ⟨h1, h2⟩ | ⟨h1, h2, d1⟩ | ⟨h1, h2, d1, d2⟩ | ⟨h1, h2, d1, d2⟩
    all_goals
      rw [h1, h2]
      clear h1 h2 Hseen2
      go_wp2_with fail
      refine (one_any w17).mono ?_
      rintro e w18 ⟨rfl, hb⟩
      have HE18 : Hid (Below w.heap.size w w18) := HE17.out.trans (hb.mono HE17.out.size)
      clear hb HE17
      go_wp2_with fail
      refine (pWriteNil_any _ _ _ _ w18).mono ?_
      rintro e w19 ⟨rfl, hb⟩
      have HE19 : Hid (Below w.heap.size w w19) := HE18.out.trans (hb.mono HE18.out.size)
      clear hb HE18
      go_wp2_with fail
      refine (one_any w19).mono ?_
      rintro e w20 ⟨rfl, hb⟩
      have HE20 : Hid (Below w.heap.size w w20) := HE19.out.trans (hb.mono HE19.out.size)
      clear hb HE19
      go_wp2_with fail
      refine (pReadNil_any _ _ _ _ w20).mono ?_
      rintro e w21 ⟨rfl, hb⟩
      have HE21 : Hid (Below w.heap.size w w21) := HE20.out.trans (hb.mono HE20.out.size)
      clear hb HE20
      go_wp2_with fail
      refine (one_any w21).mono ?_
      rintro e w22 ⟨rfl, hb⟩
      have HE22 : Hid (Below w.heap.size w w22) := HE21.out.trans (hb.mono HE21.out.size)
      clear hb HE21
      go_wp2_with fail
      refine (pJoinNil_any _ _ _ _ w22).mono ?_
      rintro e w23 ⟨rfl, hb⟩
      have HE23 : Hid (Below w.heap.size w w23) := HE22.out.trans (hb.mono HE22.out.size)
      clear hb HE22
      go_wp2_with fail
      refine (one_any w23).mono ?_
      rintro e w24 ⟨rfl, hb⟩
      have HE24 : Hid (Below w.heap.size w w24) := HE23.out.trans (hb.mono HE23.out.size)
      clear hb HE23
      go_wp2_with fail
      refine (pLeaveNil_any _ _ _ _ w24).mono ?_
      rintro e w25 ⟨rfl, hb⟩
      have HE25 : Hid (Below w.heap.size w w25) := HE24.out.trans (hb.mono HE24.out.size)
      clear hb HE24
      go_wp2_with fail
      refine (one_any w25).mono ?_
      rintro e w26 ⟨rfl, hb⟩
      have HE26 : Hid (Below w.heap.size w w26) := HE25.out.trans (hb.mono HE25.out.size)
      clear hb HE25
      go_wp2_with fail
      refine (pMakeNil_any _ _ _ w26).mono ?_
      rintro e w27 ⟨rfl, hb⟩
      have HE27 : Hid (Below w.heap.size w w27) := HE26.out.trans (hb.mono HE26.out.size)
      clear hb HE26
      go_wp2
      go_ret
      exact ⟨rfl, HE27.out⟩
end Go.Proofs.YtemmeopaihmlcaaGreatDoor
