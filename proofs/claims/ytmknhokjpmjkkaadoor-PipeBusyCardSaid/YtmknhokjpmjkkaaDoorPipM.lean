/- PipeBusy: the walk. -/
import Derived.Test.YtmknhokjpmjkkaaDoorPipL
import Derived.Deep.CutBlock
namespace Go.Proofs.YtmknhokjpmjkkaaDoor
open Go.RowKit
attribute [local go_sem ↓] Go.wp_at_zero Go.wp_at_succ

def bp (B : ByteArray) : PipeT := ⟨0, 1, 1, B⟩
theorem bp_has (B : ByteArray) : pHas 0 (some (bp B)) = (bp B, 0) := rfl
theorem bp_make : (if (none : Option PipeT).isSome = true then ((none : Option PipeT), 13, 0) else (some ⟨0, 1, 1, ⟨#[]⟩⟩, 0, 1)) = (some (bp ⟨#[]⟩), 0, 1) := rfl
theorem bp_idle (n : Nat) (h : 1 ≤ n) : pStep (opRead n) 0 (some (bp ⟨#[]⟩)) = (some (bp ⟨#[]⟩), 19, 0) := by
  have e : opRead n (bp ⟨#[]⟩) = (bp ⟨#[]⟩, 19) := by
    unfold opRead
    rw [if_neg (by omega), if_pos ⟨by omega, rfl, by decide⟩]
  simp only [pStep, e]
  rw [if_neg (by simp [bp]), if_pos (by simp)]
theorem bp_full (s B : ByteArray) (hs : s.size ≠ 0) (hB : B.size = 256) : pStep (opWrite s) 0 (some (bp B)) = (some (bp B), 19, 0) := by
  have e : opWrite s (bp B) = (bp B, 19) := by
    unfold opWrite
    rw [if_neg hs, if_neg (by simp [bp]), if_pos (show (bp B).bytes.size = 256 from hB)]
  simp only [pStep, e]
  rw [if_neg (by simp [bp]), if_pos (by simp)]
theorem bp_write (s B : ByteArray) (hs : s.size ≠ 0) (hB : B.size < 256) : ∃ B' : ByteArray, pStep (opWrite s) 0 (some (bp B)) = (some (bp B'), 0, 1) ∧ B'.size = B.size + min s.size (256 - B.size) ∧ writeN s (bp B) = min s.size (256 - B.size) := by
  have hn : writeN s (bp B) = min s.size (256 - B.size) := by unfold writeN; rw [if_neg hs]; rfl
  have hsz : (B ++ s.extract 0 (writeN s (bp B))).size = B.size + min s.size (256 - B.size) := by
    rw [ByteArray.size_append, ByteArray.size_extract, hn]
    omega
  have e : opWrite s (bp B) = (bp (B ++ s.extract 0 (writeN s (bp B))), 0) := by
    unfold opWrite
    rw [if_neg hs, if_neg (by simp [bp]), if_neg (by simp [bp]; omega)]
    rfl
  refine ⟨_, ?_, hsz, hn⟩
  simp only [pStep, e]
  rw [if_neg (by simp [bp]), if_neg (by simp), if_neg, if_neg (by simp [bp])]
  intro h
  have : (bp (B ++ s.extract 0 (writeN s (bp B)))).bytes.size = (bp B).bytes.size := by rw [h]
  simp only [bp] at this hsz
  omega
theorem bp_read (n : Nat) (B : ByteArray) (hn : 1 ≤ n) (hB : B.size = 256) : ∃ B' : ByteArray, pStep (opRead n) 0 (some (bp B)) = (some (bp B'), 0, 1) ∧ B'.size = 256 - min n 256 ∧ (readB n (bp B)).size = min n 256 := by
  have hm : min (n : Int).toNat B.size = min n 256 := by rw [hB]; simp
  have hsz : (B.extract (min (n : Int).toNat B.size) B.size).size = 256 - min n 256 := by rw [ByteArray.size_extract, hm, hB]; omega
  have e : opRead n (bp B) = (bp (B.extract (min (n : Int).toNat B.size) B.size), 0) := by
    unfold opRead
    rw [if_neg (by omega), if_neg (by simp only [bp]; omega)]
    rfl
  refine ⟨_, ?_, hsz, ?_⟩
  · simp only [pStep, e]
    rw [if_neg (by simp [bp]), if_neg (by simp), if_neg, if_neg (by simp [bp])]
    intro h
    have : (bp (B.extract (min (n : Int).toNat B.size) B.size)).bytes.size = (bp B).bytes.size := by rw [h]
    simp only [bp] at this hsz
    omega
  · unfold readB
    rw [ByteArray.size_extract]
    simp only [bp]
    omega

/-- The relation of both loops. -/
def BInv (w0 w : World) (b M i : Nat) (f : Nat) : Prop := ∃ N B, N ≤ M ∧ SP w0 w b N (some (bp B)) (fun _ => False) ∧ B.size ≤ 256 ∧ ((f = 0 ∧ i + 1 ≤ B.size) ∨ (f = 19 ∧ B.size = 256))
theorem BInv.mono {w0 w : World} {b M M' i : Nat} {f : Nat} (h : BInv w0 w b M i f) (hM : M ≤ M') : BInv w0 w b M' i f := by
  obtain ⟨N, B, h1, h2⟩ := h
  exact ⟨N, B, Nat.le_trans h1 hM, h2⟩
theorem BInv.start {w0 w : World} {b M i : Nat} {f : Nat} (h : BInv w0 w b M i f) : BInv w0 w b M 0 f := by
  obtain ⟨N, B, h1, h2, h3, h4⟩ := h
  refine ⟨N, B, h1, h2, h3, ?_⟩
  rcases h4 with ⟨ha, hb⟩ | h4
  · exact .inl ⟨ha, by omega⟩
  · exact .inr h4
theorem bz0 : (⟨#[]⟩ : ByteArray).size = 0 := rfl

set_option maxRecDepth 100000 in
set_option maxHeartbeats 4000000 in
theorem busy_any (s : ByteArray) (m : Nat) (hs : s.size ≤ 9223372036854775807) (hm : m ≤ 65535) (w : World) (hu : Usages w) : Calls Tryd.prog 9 #[.string s, .int .u16 m] w (TruePost w) := by
  have Hu := Lib.hid hu; clear hu
  by_cases hbad : s.size = 0 ∨ 600 < s.size
  · have hways : (s.toList.isEmpty = true) ∨ (s.toList.isEmpty = false ∧ 600 < s.size) := by
      by_cases h : s.size = 0
      · exact .inl (by rw [toList_empty]; simp [h])
      · exact .inr ⟨by rw [toList_empty]; simp [h], by omega⟩
    clear hbad
    rcases hways with h1 | ⟨h1, h2⟩
    all_goals
      go_enter Tryd.func9, Tryd.ntmps9
      go_wp2_with fail
      refine (pKnown_any _ Hu.out).mono ?_
      rintro e w1 ⟨rfl, hb1⟩
      have Hb1 := Lib.hid hb1; clear hb1
      go_wp2_with fail
      refine (pKnown_any _ (Hu.out.below Hb1.out Hu.out.pos)).mono ?_
      rintro e w2 ⟨rfl, hb2⟩
      have Hb2 := Lib.hid hb2; clear hb2
      go_wp2
      go_ret
      exact ⟨rfl, Hb1.out.trans (Hb2.out.mono Hb1.out.size)⟩
  · have h0 : s.size ≠ 0 := fun h => hbad (.inl h)
    have h600 : s.size ≤ 600 := by omega
    have h0' : s.toList.isEmpty = false := by rw [toList_empty]; simp [h0]
    clear hbad
    have H0 := Lib.hid h0
    have hs1 : 1 ≤ s.size := by omega
    clear h0
    go_enter Tryd.func9, Tryd.ntmps9
    go_wp2_with fail
    refine (pKnown_any _ Hu.out).mono ?_
    rintro e w1 ⟨rfl, hb1⟩
    have Hb1 := Lib.hid hb1; clear hb1
    have Hu1 := Lib.hid (Hu.out.below Hb1.out Hu.out.pos)
    go_wp2_with fail
    refine (spNew w1 Hu1.out).mono ?_
    rintro e w2 ⟨rfl, hnew⟩
    have Hnew := Lib.hid hnew; clear hnew
    go_wp2_with fail
    refine Hnew.out.mono ?_
    rintro e w3 ⟨rfl, s0⟩
    clear Hnew Hu1
    have S0 := Lib.hid s0; clear s0
    go_wp2_with fail
    refine (one_any _).mono ?_
    rintro e w4 ⟨rfl, hb⟩
    have S1 := Lib.hid (S0.out.later hb); clear hb S0
    obtain ⟨n, hn, hn1, hn300⟩ : ∃ n : Nat, (1 + (m : Int) % 300) = (n : Int) ∧ 1 ≤ n ∧ n ≤ 300 := ⟨1 + m % 300, by omega, by omega, by omega⟩
    rw [hn]
    clear hn
    go_wp2_with fail
    refine (spMake w1 w4 _ 0 none _ 0 S1.out (by decide) pe_ep _ 0 1 bp_make).mono ?_
    rintro e w5 ⟨rfl, s2, -⟩
    have S2 := Lib.hid s2; clear s2 S1
    go_wp2_with fail
    refine (spMark w1 w5 _ _ _ _ S2.out).mono ?_
    rintro e w6 ⟨rfl, rfl⟩
    go_wp2_with fail
    refine (one_any _).mono ?_
    rintro e w6 ⟨rfl, hb⟩
    have S3 := Lib.hid (S2.out.later hb); clear hb S2
    go_wp2_with fail
    refine (spRead w1 w6 _ _ _ _ 0 S3.out (by decide) pe_ep n (by omega) _ 19 0 (bp_idle n hn1) ⟨#[]⟩ rfl).mono ?_
    rintro e w7 ⟨rfl, s2, -⟩
    have S4 := Lib.hid s2; clear s2 S3
    go_wp2_with fail
    refine (spMark w1 w7 _ _ _ _ S4.out).mono ?_
    rintro e w8 ⟨rfl, rfl⟩
    go_wp2_with fail
    refine (one_any _).mono ?_
    rintro e w8 ⟨rfl, hb⟩
    have S5 := Lib.hid (S4.out.later hb); clear hb S4
    obtain ⟨B1, hB1, hz1, hn1'⟩ := bp_write s ⟨#[]⟩ H0.out (by rw [bz0]; decide)
    rw [bz0] at hz1 hn1'
    obtain ⟨av, hav⟩ : ∃ av, min s.size (256 - 0) = av := ⟨_, rfl⟩
    rw [hav] at hz1 hn1'
    have Hav := Lib.hid hav; clear hav
    have HB1 := Lib.hid hB1; clear hB1
    have Hz1 := Lib.hid hz1; clear hz1
    have Hn1' := Lib.hid hn1'; clear hn1'
    go_wp2_with fail
    refine (spWrite w1 w8 _ _ _ _ 0 S5.out (by decide) pe_ep s hs _ 0 1 HB1.out av (by rw [if_pos rfl, bp_has]; exact Hn1'.out)).mono ?_
    rintro e w9 ⟨rfl, s2, -⟩
    have A0 : Hid (BInv w1 w9 (w1.heap.size + 3) 2 0 0) := ⟨_, B1, Nat.le_refl _, s2, by have := Hz1.out; have := Hav.out; omega, .inl ⟨rfl, by have := Hz1.out; have := Hav.out; omega⟩⟩
    clear s2 S5 HB1 Hz1 Hn1'
    go_upto_block 0 with fail
    go_cut [12] (fun f wx => ∃ fv : Nat, f = .int .i64 fv ∧ BInv w1 wx (w1.heap.size + 3) 5 0 fv)
    case first =>
      go_wp2_with fail
      go_loopg [12, 13] 3 (fun gk f i wr => ∃ j fv : Nat, j + gk = 3 ∧ i = .int .i64 j ∧ f = .int .i64 fv ∧ Hid (BInv w1 wr (w1.heap.size + 3) (2 + j) j fv))
      case atStart => exact ⟨0, _, by omega, rfl, rfl, A0.out⟩
      case round =>
        clear A0
        obtain ⟨j, fv, hj, rfl, rfl, HA⟩ := hrel
        have Hj := Lib.hid hj
        have hjk : j ≤ 3 := by omega
        clear hj
        obtain ⟨N, B, hN, sp, hB, hcase⟩ := HA.out
        have S := Lib.hid sp; clear sp
        rcases hcase with ⟨hf, hz⟩ | ⟨hf, hz⟩
        · subst hf
          by_cases hlt : j < 3
          · by_cases hfull : B.size = 256
            · have Hst := Lib.hid (bp_full s B H0.out hfull)
              have Hfull := Lib.hid hfull; clear hfull
              go_wp2_with fail
              refine (one_any _).mono ?_
              rintro e w10 ⟨rfl, hb⟩
              have S2 := Lib.hid (S.out.later hb); clear hb S HA
              go_wp2_with fail
              refine (spWrite w1 w10 _ N _ _ 0 S2.out (by omega) pe_ep s hs _ 19 0 Hst.out 0 rfl).mono ?_
              rintro e w11 ⟨rfl, sp, -⟩
              have HA2 : Hid (BInv w1 w11 (w1.heap.size + 3) (2 + (j + 1)) (j + 1) 19) := ⟨N, B, by omega, sp, hB, .inr ⟨rfl, Hfull.out⟩⟩
              clear sp S2
              go_wp2
              go_roundg (3 - (j + 1))
              case measure => have := Hj.out; omega
              case rel => exact ⟨j + 1, 19, by omega, by go_num, rfl, HA2.out⟩
            · obtain ⟨B', hst, hz', hn'⟩ := bp_write s B H0.out (by omega)
              have Hst := Lib.hid hst; clear hst
              have hzz : j + 1 + 1 ≤ B'.size ∧ B'.size ≤ 256 := by omega
              have Hzz := Lib.hid hzz; clear hzz hz'
              have Hn' := Lib.hid hn'; clear hn' hfull
              obtain ⟨nn, hnn⟩ : ∃ nn, writeN s (bp B) = nn := ⟨_, rfl⟩
              have Hnn := Lib.hid hnn; clear hnn
              go_wp2_with fail
              refine (one_any _).mono ?_
              rintro e w10 ⟨rfl, hb⟩
              have S2 := Lib.hid (S.out.later hb); clear hb S HA
              go_wp2_with fail
              refine (spWrite w1 w10 _ N _ _ 0 S2.out (by omega) pe_ep s hs _ 0 1 Hst.out nn (by rw [if_pos rfl, bp_has]; exact Hnn.out)).mono ?_
              rintro e w11 ⟨rfl, sp, -⟩
              have HA2 : Hid (BInv w1 w11 (w1.heap.size + 3) (2 + (j + 1)) (j + 1) 0) := ⟨N + 1, B', by omega, sp, Hzz.out.2, .inl ⟨rfl, Hzz.out.1⟩⟩
              clear sp S2
              go_wp2
              go_roundg (3 - (j + 1))
              case measure => have := Hj.out; omega
              case rel => exact ⟨j + 1, 0, by omega, by go_num, rfl, HA2.out⟩
          · go_wp2
            go_meet
            exact ⟨0, rfl, (HA.out.mono (by omega)).start⟩
        · subst hf
          by_cases hlt : j < 3
          all_goals
            go_wp2
            go_meet
            exact ⟨19, rfl, (HA.out.mono (by omega)).start⟩
    case rest =>
      obtain ⟨fv0, rfl, hcut⟩ := hcut
      have Hcut := Lib.hid hcut; clear hcut A0
      go_upto_block 2 with fail
      go_cut [12] (fun f wx => f = .int .i64 19 ∧ ∃ N B, N ≤ 605 ∧ SP w1 wx (w1.heap.size + 3) N (some (bp B)) (fun _ => False) ∧ B.size = 256)
      case first =>
        go_wp2_with fail
        go_loopg [12, 14] 600 (fun gk f i wr => ∃ j fv : Nat, j + gk = 600 ∧ i = .int .i64 j ∧ f = .int .i64 fv ∧ Hid (BInv w1 wr (w1.heap.size + 3) (5 + j) j fv))
        case atStart => exact ⟨0, _, by omega, rfl, rfl, Hcut.out⟩
        case round =>
          clear Hcut
          obtain ⟨j, fv, hj, rfl, rfl, HA⟩ := hrel
          have Hj := Lib.hid hj
          have hjk : j ≤ 600 := by omega
          clear hj
          obtain ⟨N, B, hN, sp, hB, hcase⟩ := HA.out
          have S := Lib.hid sp; clear sp
          rcases hcase with ⟨hf, hz⟩ | ⟨hf, hz⟩
          · subst hf
            by_cases hlt : j < 600
            · by_cases hfull : B.size = 256
              · have Hst := Lib.hid (bp_full s B H0.out hfull)
                have Hfull := Lib.hid hfull; clear hfull
                go_wp2_with fail
                refine (one_any _).mono ?_
                rintro e w10 ⟨rfl, hb⟩
                have S2 := Lib.hid (S.out.later hb); clear hb S HA
                go_wp2_with fail
                refine (spWrite w1 w10 _ N _ _ 0 S2.out (by omega) pe_ep s hs _ 19 0 Hst.out 0 rfl).mono ?_
                rintro e w11 ⟨rfl, sp, -⟩
                have HA2 : Hid (BInv w1 w11 (w1.heap.size + 3) (5 + (j + 1)) (j + 1) 19) := ⟨N, B, by omega, sp, hB, .inr ⟨rfl, Hfull.out⟩⟩
                clear sp S2
                go_wp2
                go_roundg (600 - (j + 1))
                case measure => have := Hj.out; omega
                case rel => exact ⟨j + 1, 19, by omega, by go_num, rfl, HA2.out⟩
              · obtain ⟨B', hst, hz', hn'⟩ := bp_write s B H0.out (by omega)
                have Hst := Lib.hid hst; clear hst
                have hzz : j + 1 + 1 ≤ B'.size ∧ B'.size ≤ 256 := by omega
                have Hzz := Lib.hid hzz; clear hzz hz'
                have Hn' := Lib.hid hn'; clear hn' hfull
                obtain ⟨nn, hnn⟩ : ∃ nn, writeN s (bp B) = nn := ⟨_, rfl⟩
                have Hnn := Lib.hid hnn; clear hnn
                go_wp2_with fail
                refine (one_any _).mono ?_
                rintro e w10 ⟨rfl, hb⟩
                have S2 := Lib.hid (S.out.later hb); clear hb S HA
                go_wp2_with fail
                refine (spWrite w1 w10 _ N _ _ 0 S2.out (by omega) pe_ep s hs _ 0 1 Hst.out nn (by rw [if_pos rfl, bp_has]; exact Hnn.out)).mono ?_
                rintro e w11 ⟨rfl, sp, -⟩
                have HA2 : Hid (BInv w1 w11 (w1.heap.size + 3) (5 + (j + 1)) (j + 1) 0) := ⟨N + 1, B', by omega, sp, Hzz.out.2, .inl ⟨rfl, Hzz.out.1⟩⟩
                clear sp S2
                go_wp2
                go_roundg (600 - (j + 1))
                case measure => have := Hj.out; omega
                case rel => exact ⟨j + 1, 0, by omega, by go_num, rfl, HA2.out⟩
            · exfalso
              omega
          · subst hf
            have Hz := Lib.hid hz; clear hz
            by_cases hlt : j < 600
            all_goals
              go_wp2
              go_meet
              exact ⟨rfl, N, B, by omega, S.out, Hz.out⟩
      case rest =>
        obtain ⟨rfl, N, B, hN, sp, hB⟩ := hcut
        have S := Lib.hid sp; clear sp Hcut
        have HB := Lib.hid hB; clear hB
        go_wp2_with fail
        refine (spMark w1 _ _ _ _ _ S.out).mono ?_
        rintro e w10 ⟨rfl, rfl⟩
        go_wp2_with fail
        refine (one_any _).mono ?_
        rintro e w10 ⟨rfl, hb⟩
        have S2 := Lib.hid (S.out.later hb); clear hb S
        have Hst := Lib.hid (bp_full s B H0.out HB.out)
        go_wp2_with fail
        refine (spWrite w1 w10 _ N _ _ 0 S2.out (by omega) pe_ep s hs _ 19 0 Hst.out 0 rfl).mono ?_
        rintro e w11 ⟨rfl, sp, -⟩
        have S3 : Hid (SP w1 w11 (w1.heap.size + 3) N (some (bp B)) (fun _ => False)) := sp
        clear sp S2 Hst
        go_wp2_with fail
        refine (spMark w1 w11 _ _ _ _ S3.out).mono ?_
        rintro e w12 ⟨rfl, rfl⟩
        go_wp2_with fail
        refine (one_any _).mono ?_
        rintro e w12 ⟨rfl, hb⟩
        have S4 := Lib.hid (S3.out.later hb); clear hb S3
        obtain ⟨B', hst, hz', hrb⟩ := bp_read n B hn1 HB.out
        have Hst := Lib.hid hst; clear hst
        obtain ⟨bb, hbb⟩ : ∃ bb, readB n (bp B) = bb := ⟨_, rfl⟩
        rw [hbb] at hrb
        have Hbb := Lib.hid hbb; clear hbb
        have Hz' := Lib.hid hz'; clear hz'
        have Hrb := Lib.hid hrb; clear hrb
        go_wp2_with fail
        refine (spRead w1 w12 _ N _ _ 0 S4.out (by omega) pe_ep n (by omega) _ 0 1 Hst.out bb (by rw [if_pos rfl, bp_has]; exact Hbb.out)).mono ?_
        rintro e w13 ⟨rfl, sp, -⟩
        have S5 := Lib.hid sp; clear sp S4 Hst
        go_wp2_with fail
        refine (one_any _).mono ?_
        rintro e w14 ⟨rfl, hb⟩
        have S6 := Lib.hid (S5.out.later hb); clear hb S5
        obtain ⟨B2, hst, -, hn2⟩ := bp_write s B' H0.out (by have := Hz'.out; omega)
        have Hst := Lib.hid hst; clear hst
        have hcv : writeN s (bp B') = min s.size bb.size := by rw [hn2, Hz'.out, Hrb.out]; omega
        clear hn2
        obtain ⟨cv, hcv2⟩ : ∃ cv, min s.size bb.size = cv := ⟨_, rfl⟩
        rw [hcv2] at hcv
        have Hcv := Lib.hid hcv; clear hcv
        have Hcv2 := Lib.hid hcv2; clear hcv2
        go_wp2_with fail
        refine (spWrite w1 w14 _ (N + 1) _ _ 0 S6.out (by omega) pe_ep s hs _ 0 1 Hst.out cv (by rw [if_pos rfl, bp_has]; exact Hcv.out)).mono ?_
        rintro e w15 ⟨rfl, sp, -⟩
        have Hfin : Hid (Below w.heap.size w w15) := Hb1.out.trans (sp.below.mono Hb1.out.size)
        clear sp S6 Hst Hcv
        have w1' : (s.size ≤ 256 ∧ av = s.size) ∨ (¬ s.size ≤ 256 ∧ av = 256) := by have := Hav.out; omega
        have w2' : (n ≤ 256 ∧ bb.size = n) ∨ (¬ n ≤ 256 ∧ bb.size = 256) := by have := Hrb.out; omega
        have w3' : (s.size ≤ bb.size ∧ cv = s.size) ∨ (¬ s.size ≤ bb.size ∧ cv = bb.size) := by have := Hcv2.out; omega
        clear Hav Hrb Hcv2
        rcases w1' with ⟨p1, rfl⟩ | ⟨p1, rfl⟩
        all_goals
          rcases w2' with ⟨p2, q2⟩ | ⟨p2, q2⟩
          all_goals
            rw [q2] at w3'
            rcases w3' with ⟨p3, rfl⟩ | ⟨p3, rfl⟩
            all_goals
              go_wp2
              all_goals
                go_ret
                exact ⟨rfl, Hfin.out⟩

end Go.Proofs.YtmknhokjpmjkkaaDoor
