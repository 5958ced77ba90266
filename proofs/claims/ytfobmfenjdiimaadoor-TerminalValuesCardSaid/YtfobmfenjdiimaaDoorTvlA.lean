/- Law 36: TerminalValues. (printed by wip/gen_tvl.py) -/
import Derived.Test.YtfobmfenjdiimaaDoorRtE
import Derived.Test.YtfobmfenjdiimaaDoorKnown
namespace Go.Proofs.YtfobmfenjdiimaaDoor
open Go.RowKit
attribute [local go_sem ↓] Go.wp_at_zero Go.wp_at_succ

/-- A copy whose row can be read. -/
def CpS (w : World) (t : TermT) (r : Ending) (w' : World) : Prop :=
  ∃ a c, r = .returned (.agg #[.int .i64 t.epoch, .string t.session, .slice a t.typed.length c, .string t.screen]) ∧ SSl w' a t.typed.length t.typed ∧ Below w.heap.size w w'
theorem CpPost.s {w w' : World} {t : TermT} {r : Ending} (h : CpPost w t r w') : CpS w t r w' := by
  obtain ⟨a, c, h1, h2, -, h4⟩ := h
  exact ⟨a, c, h1, h2.sl, h4⟩
theorem decide_self (t : TermT) : decide (t = t) = true := decide_eq_true rfl
/-- What both Decodes leave, in words that can be named. -/
theorem TermPost.s {w w' : World} {t : TermT} {e : Nat} {r : Ending} (h : TermPost w t e r w') : ∃ a c, r = .returned (.tuple #[.agg #[.int .i64 t.epoch, .string t.session, .slice a t.typed.length c, .string t.screen], .int .i64 e]) ∧ SSl w' a t.typed.length t.typed ∧ Below w.heap.size w w' := by
  obtain ⟨a, n, c, h1, h2, -, h4⟩ := h
  have hn := h2.sl.1
  subst hn
  exact ⟨a, c, h1, h2.sl, h4⟩
theorem decT_small36 (s : ByteArray) : (decT s).1.typed.length ≤ 16 := by
  unfold decT
  split
  · rename_i h
    exact (checkT_ok h.2).2.2.1
  · exact Nat.zero_le _
set_option linter.unusedSimpArgs false in
set_option maxRecDepth 100000 in
set_option maxHeartbeats 12800000 in
theorem tvalues_any (ep : Int) (se sc : ByteArray) (a : Option Addr) (n c : Nat) (ls : List ByteArray) (ep2 : Int) (se2 sc2 : ByteArray) (a2 : Option Addr) (n2 c2 : Nat) (ls2 : List ByteArray) (s : ByteArray) (w : World) (hu : Usages w) (hs : SSl w a n ls) (hs2 : SSl w a2 n2 ls2) (hn : n ≤ 9223372036854775807) (hn2 : n2 ≤ 9223372036854775807) (hse : se.size ≤ 9223372036854775807) (hsc : sc.size ≤ 9223372036854775807) (hls : ∀ x ∈ ls, x.size ≤ 9223372036854775807) (hss : s.size ≤ 9223372036854775807) :
    Calls Tryd.prog 3 #[.agg #[.int .i64 ep, .string se, .slice a n c, .string sc], .agg #[.int .i64 ep2, .string se2, .slice a2 n2 c2, .string sc2], .string s] w fun r w' => r = .returned (.bool true) ∧ Below w.heap.size w w' := by
  have HU : Hid (∀ W, Below w.heap.size w W → Usages W) := fun W hW => hu.below hW hu.pos
  have HKn : Hid (∀ W, Below w.heap.size w W → Calls Tryd.prog 6 #[] W fun r w' => r = .returned (.bool true) ∧ Below W.heap.size W w') := fun W hW => known_any W (hu.below hW hu.pos)
  have HL : Hid (∀ W, Below w.heap.size w W → SSl W a n ls) := fun W hW => hs.later hW
  have HL2 : Hid (∀ W, Below w.heap.size w W → SSl W a2 n2 ls2) := fun W hW => hs2.later hW
  have Hnl := Lib.hid hs.1
  have Hnl2 := Lib.hid hs2.1
  have Hls := Lib.hid hls
  have HA : Hid (∀ o o', Below w.heap.size w ((w.alloc o).alloc o')) := fun o o' => ((Below.refl _ _).alloc (Nat.le_refl _) _).alloc (by rw [World.size_alloc]; omega) _
  have HX : Hid (∀ o o' : Obj, ((w.alloc o).alloc o').heap[w.heap.size]? = some o ∧ ((w.alloc o).alloc o').heap[w.heap.size + 1]? = some o') := fun o o' => ⟨(Below.heap_alloc _ _ _ (by simp)).trans (World.alloc_heap_new w _), by have := World.alloc_heap_new (w.alloc o) o'; rw [World.size_alloc] at this; exact this⟩
  clear hu hs hs2 hls
  go_enter Tryd.func3, Tryd.ntmps3
  go_wp2_with fail
  refine (HKn.out _ (HA.out _ _)).mono ?_
  rintro r w1 ⟨rfl, hb1⟩
  have HB1 : Hid (Below w.heap.size w w1) := (HA.out _ _).trans (hb1.mono (HA.out _ _).size)
  have HX1 := Lib.hid ((hb1.block _ (lt_of_heap (HX.out _ _).1)).trans (HX.out _ _).1)
  have HX2 := Lib.hid ((hb1.block _ (lt_of_heap (HX.out _ _).2)).trans (HX.out _ _).2)
  clear hb1 HA HX
  have HC : Hid (∀ W, Below w1.heap.size w1 W → W.cell? ⟨w.heap.size, 0, none⟩ = some (.int .i64 ep) ∧ W.cell? ⟨w.heap.size, 1, none⟩ = some (.string se) ∧ W.cell? ⟨w.heap.size, 2, none⟩ = some (.slice a n c) ∧ W.cell? ⟨w.heap.size, 3, none⟩ = some (.string sc) ∧ W.cell? ⟨w.heap.size + 1, 0, none⟩ = some (.int .i64 ep2) ∧ W.cell? ⟨w.heap.size + 1, 1, none⟩ = some (.string se2) ∧ W.cell? ⟨w.heap.size + 1, 2, none⟩ = some (.slice a2 n2 c2) ∧ W.cell? ⟨w.heap.size + 1, 3, none⟩ = some (.string sc2)) := fun W hW => by
    have g1 := (hW.block _ (lt_of_heap HX1.out)).trans HX1.out
    have g2 := (hW.block _ (lt_of_heap HX2.out)).trans HX2.out
    exact ⟨cell_of_heap g1 0, cell_of_heap g1 1, cell_of_heap g1 2, cell_of_heap g1 3, cell_of_heap g2 0, cell_of_heap g2 1, cell_of_heap g2 2, cell_of_heap g2 3⟩
  clear HX1 HX2
  obtain ⟨-, t1, t2, t3, -, -, u2, -⟩ := HC.out _ (Below.refl _ _)
  by_cases hbig : 20 < n ∨ 20 < n2 ∨ 2100 < sc.size ∨ 100 < se.size ∨ 3000 < s.size
  · have hways : 20 < n ∨ (¬ 20 < n ∧ 20 < n2) ∨ (¬ 20 < n ∧ ¬ 20 < n2 ∧ 2100 < sc.size) ∨ (¬ 20 < n ∧ ¬ 20 < n2 ∧ ¬ 2100 < sc.size ∧ 100 < se.size) ∨ (¬ 20 < n ∧ ¬ 20 < n2 ∧ ¬ 2100 < sc.size ∧ ¬ 100 < se.size ∧ 3000 < s.size) := by omega
    clear hbig HC HL HL2 Hls
    rcases hways with h1 | ⟨h1, h2⟩ | ⟨h1, h2, h3⟩ | ⟨h1, h2, h3, h4⟩ | ⟨h1, h2, h3, h4, h5⟩
    all_goals
      go_wp2_with fail
      refine (HKn.out _ HB1.out).mono ?_
      rintro r w2 ⟨rfl, hb2⟩
      have HB2 : Hid (Below w.heap.size w w2) := HB1.out.trans (hb2.mono HB1.out.size)
      clear hb2
      go_wp2
      refine bodyPost_ret (v := .bool true) (by simp [results, Tryd.results3, go_sem]) rfl ?_
      exact ⟨rfl, HB2.out⟩
  have hb1 : n ≤ 20 := by omega
  have hb2 : n2 ≤ 20 := by omega
  have hb3 : sc.size ≤ 2100 := by omega
  have hb4 : se.size ≤ 100 := by omega
  have hb5 : s.size ≤ 3000 := by omega
  clear hbig HKn
  go_wp2_with fail
  go_loopg [7] n (fun gk iv wr => ∃ k : Nat, k + gk = n ∧ iv = .int .i64 k ∧ Hid (∀ j, j < k → (ls.getD j ⟨#[]⟩).size ≤ 1100) ∧ Hid (Below w1.heap.size w1 wr))
  case atStart => exact ⟨0, by omega, rfl, fun j hj => by omega, Below.refl _ _⟩
  case round =>
    clear t1 t2 t3 u2
    obtain ⟨k, hg, rfl, HSz, HB⟩ := hrel
    have Hg := Lib.hid hg
    have hk : k ≤ n := by omega
    clear hg
    have HBw : Hid (Below w.heap.size w wr) := HB1.out.trans (HB.out.mono HB1.out.size)
    obtain ⟨-, -, t2, -, -, -, -, -⟩ := HC.out _ HB.out
    by_cases hlt : k < n
    · obtain ⟨g1, o1, x, rfl, ex, c1⟩ := (HL.out _ HBw.out).at_ hlt
      have hgx : ls.getD k ⟨#[]⟩ = x := by rw [List.getD_eq_getElem?_getD, ex]; rfl
      have Hgx := Lib.hid hgx
      have hxs : x.size ≤ 9223372036854775807 := Hls.out x (List.mem_of_getElem? ex)
      clear ex hgx
      by_cases hx : 1100 < x.size
      · go_wp2
        refine bodyPost_ret (v := .bool true) (by simp [results, Tryd.results3, go_sem]) rfl ?_
        exact ⟨rfl, HBw.out⟩
      · have HSn : Hid (∀ j, j < k + 1 → (ls.getD j ⟨#[]⟩).size ≤ 1100) := fun j hj => by
          by_cases hjk : j = k
          · subst hjk; rw [Hgx.out]; omega
          · exact HSz.out j (by omega)
        generalize hle : lineE x = le at *
        have Hle := Lib.hid hle
        clear hle
        go_upto_region 8 with fail
        go_region_held3 (fun W => W.cell? ⟨w.heap.size, 2, none⟩ = some (.slice (some ⟨g1, o1, none⟩) n c) ∧ W.cell? ⟨g1, o1 + k, none⟩ = some (.string x)) (first | with_reducible exact ⟨t2, c1⟩ | assumption | go_keep)
          (first
            | (go_at_call 7; refine (checkLine_is x le Hle.out _ hxs).mono ?_; rintro r w' ⟨rfl, rfl⟩)
            | (go_at_call 8; refine (rLine_is x le Hle.out _ hxs).mono ?_; rintro r w' ⟨rfl, rfl⟩)
            | fail)
        go_wp2
        go_roundg (n - (k + 1))
        case measure => have := Hg.out; omega
        case rel => exact ⟨k + 1, by have := Hg.out; omega, by go_num, HSn.out, by first | exact HB.out.drew | exact below_toD HB.out _ | exact HB.out⟩
    · have hkn : k = n := by omega
      have HLz : Hid (∀ x ∈ ls, x.size ≤ 1100) := fun x hx => by
        obtain ⟨j, hj⟩ := List.mem_iff_getElem?.1 hx
        have h1 : j < ls.length := (List.getElem?_eq_some_iff.1 hj).1
        have h2 := HSz.out j (by have := Hnl.out; omega)
        rw [List.getD_eq_getElem?_getD, hj] at h2
        exact h2
      clear Hg HSz hk
      have HTo : Hid (∀ W, Below w.heap.size w W → Calls Tryd.prog 10 #[.agg #[.int .i64 ep, .string se, .slice a n c, .string sc]] W (CpS W ⟨ep, se, ls, sc⟩)) := fun W hW => (to36_any ep se sc a n c ls W (HL.out W hW) (by omega) hb1).mono (fun _ _ h => h.s)
      have HTu : Hid (∀ W, Below w.heap.size w W → Calls Tryd.prog 10 #[.agg #[.int .i64 ep2, .string se2, .slice a2 n2 c2, .string sc2]] W (CpS W ⟨ep2, se2, ls2, sc2⟩)) := fun W hW => (to36_any ep2 se2 sc2 a2 n2 c2 ls2 W (HL2.out W hW) (by omega) hb2).mono (fun _ _ h => h.s)
      have hlz : ∀ x ∈ ls, x.size ≤ 70368744177664 := fun x hx => Nat.le_trans (HLz.out x hx) (by decide)
      have hl20 : ls.length ≤ 20 := by have := Hnl.out; omega
      have hl20b : ls2.length ≤ 20 := by have := Hnl2.out; omega
      have HEn : Hid (∀ W b d, Below w.heap.size w W → SSl W b ls.length ls → Calls Tryd.prog 9 #[.agg #[.int .i64 ep, .string se, .slice b ls.length d, .string sc]] W fun r w' => r = .returned (.tuple #[.string (encT ⟨ep, se, ls, sc⟩).1, .int .i64 (encT ⟨ep, se, ls, sc⟩).2]) ∧ Below W.heap.size W w') := fun W b d hW h => encode_any ep se sc b ls.length d ls W h (by omega) (by omega) (by omega) hlz
      have HRe : Hid (∀ W, Below w.heap.size w W → Calls Tryd.prog 11 #[.agg #[.int .i64 ep, .string se, .slice a n c, .string sc]] W fun r w' => r = .returned (.tuple #[.string (encT ⟨ep, se, ls, sc⟩).1, .int .i64 (encT ⟨ep, se, ls, sc⟩).2]) ∧ Below W.heap.size W w') := fun W hW => rEnc36_any ep se sc a n c ls W (HL.out W hW) (by omega) (by omega) (by omega) hlz
      have HCk0 : Hid (∀ W b d, SSl W b ls.length ls → Calls Tryd.prog 14 #[.agg #[.int .i64 ep, .string se, .slice b ls.length d, .string sc]] W fun r w' => r = .returned (.int .i64 (checkT ⟨ep, se, ls, sc⟩)) ∧ Below W.heap.size W w') := fun W b d h => termCheck_any ep se sc b ls.length d ls W h (by omega) (by omega) (by omega) hlz
      have HRk0 : Hid (∀ W, Below w.heap.size w W → Calls Tryd.prog 15 #[.agg #[.int .i64 ep, .string se, .slice a n c, .string sc]] W fun r w' => r = .returned (.int .i64 (checkT ⟨ep, se, ls, sc⟩)) ∧ Below W.heap.size W w') := fun W hW => rTermCheck_any ep se sc a n c ls W (HL.out W hW) (by omega) (by omega) (by omega) hlz
      have HDe : Hid (∀ W, Calls Tryd.prog 12 #[.string s] W (TermPost W (decT s).1 (decT s).2)) := fun W => decode_any s W (by omega) (by omega)
      have HDr : Hid (∀ W, Calls Tryd.prog 13 #[.string s] W (TermPost W (decT s).1 (decT s).2)) := fun W => by have h := rDec36_any s W (by omega); rw [rDecT_is s (by omega)] at h; exact h
      have HXl : Hid ((decT s).1.typed.length ≤ 1000000) := Nat.le_trans (decT_small36 s) (by decide)
      have HEz : Hid ((encT ⟨ep, se, ls, sc⟩).1.size ≤ 65536) := encT_size (by show se.size ≤ 1000; omega)
      have HEd : Hid (checkT ⟨ep, se, ls, sc⟩ = 0 → decT (encT ⟨ep, se, ls, sc⟩).1 = (⟨ep, se, ls, sc⟩, 0)) := fun h => by unfold encT; rw [if_pos h]; exact dec_enc _ h (by show se.size ≤ 65536; omega)
      have HEe : Hid ((encT ⟨ep, se, ls, sc⟩).2 = checkT ⟨ep, se, ls, sc⟩) := encT_err _
      clear hlz
      obtain ⟨t0, t1, -, t3, -, -, -, -⟩ := HC.out _ HB.out
      generalize encT ⟨ep, se, ls, sc⟩ = en at *
      obtain ⟨ea, ee⟩ := en
      dsimp only at HEn HRe HEz HEd HEe
      generalize checkT ⟨ep, se, ls, sc⟩ = ck at *
      generalize decT s = de at *
      obtain ⟨⟨xe, xs, xl, xc⟩, xq⟩ := de
      dsimp only at HDe HDr HXl
      go_wp2_with fail
      refine (HTo.out _ HBw.out).mono ?_
      rintro r w2 ⟨b2, d2, rfl, hr2, hbb⟩
      have B2 : Hid (Below wr.heap.size wr w2) := hbb
      have R2 := Lib.hid hr2
      clear hr2 hbb t2
      dsimp only
      go_wp2_with fail
      refine (HEn.out _ _ _ (HBw.out.trans (B2.out.mono HBw.out.size)) R2.out).mono ?_
      rintro r w3 ⟨rfl, hbb⟩
      have B3 : Hid (Below wr.heap.size wr w3) := B2.out.trans (hbb.mono B2.out.size)
      clear hbb R2 t0 t1 t3
      obtain ⟨t0, t1, t2, t3, -, -, -, -⟩ := HC.out _ (HB.out.trans (B3.out.mono HB.out.size))
      go_wp2_with fail
      refine (HRe.out _ (HBw.out.trans (B3.out.mono HBw.out.size))).mono ?_
      rintro r w4 ⟨rfl, hbb⟩
      have B4 : Hid (Below wr.heap.size wr w4) := B3.out.trans (hbb.mono B3.out.size)
      clear hbb t0 t1 t2 t3 B3 B2
      go_wp2_with fail
      refine (HDe.out _).mono ?_
      rintro r w5 h5
      obtain ⟨xa, xk, rfl, hr5, hbb⟩ := h5.s
      clear h5
      dsimp only at hr5 ⊢
      have B5 : Hid (Below wr.heap.size wr w5) := B4.out.trans (hbb.mono B4.out.size)
      have R5 := Lib.hid hr5
      clear hr5 hbb B4
      have HA5 : Hid (∀ o, Below w5.heap.size w5 (w5.alloc o)) := fun o => (Below.refl _ _).alloc (Nat.le_refl _) _
      have HX5 : Hid (∀ o, (w5.alloc o).heap[w5.heap.size]? = some o) := fun o => heap_alloc_new w5 o
      go_wp2_with fail
      refine (HDr.out _).mono ?_
      rintro r w6 h6
      obtain ⟨ya, yk, rfl, hr6, hbb⟩ := h6.s
      clear h6
      dsimp only at hr6 ⊢
      have B6 : Hid (Below wr.heap.size wr w6) := (B5.out.trans ((HA5.out _).mono B5.out.size)).trans (hbb.mono (Nat.le_trans B5.out.size (HA5.out _).size))
      have HX6 := Lib.hid ((hbb.block _ (lt_of_heap (HX5.out _))).trans (HX5.out _))
      have R56 := Lib.hid (R5.out.later ((HA5.out _).trans (hbb.mono (HA5.out _).size)))
      have R6 := Lib.hid hr6
      clear hr6 hbb HA5 HX5 R5 B5
      have HA6 : Hid (∀ o, Below w6.heap.size w6 (w6.alloc o)) := fun o => (Below.refl _ _).alloc (Nat.le_refl _) _
      have HX7 : Hid (∀ o, (w6.alloc o).heap[w6.heap.size]? = some o) := fun o => heap_alloc_new w6 o
      generalize w5.heap.size = X at *
      go_upto_region 14 with fail
      have B7 : Hid (Below wr.heap.size wr _) := B6.out.trans ((HA6.out (.cells #[.int .i64 xe, .string xs, .slice ya xl.length yk, .string xc] 24)).mono B6.out.size)
      have HXx := Lib.hid (((HA6.out (.cells #[.int .i64 xe, .string xs, .slice ya xl.length yk, .string xc] 24)).block _ (lt_of_heap HX6.out)).trans HX6.out)
      have HXy := Lib.hid (HX7.out (.cells #[.int .i64 xe, .string xs, .slice ya xl.length yk, .string xc] 24))
      have Rx := Lib.hid (R56.out.later (HA6.out (.cells #[.int .i64 xe, .string xs, .slice ya xl.length yk, .string xc] 24)))
      have Ry := Lib.hid (R6.out.later (HA6.out (.cells #[.int .i64 xe, .string xs, .slice ya xl.length yk, .string xc] 24)))
      clear B6 HX6 HX7 R56 R6 HA6
      generalize w6.alloc (.cells #[.int .i64 xe, .string xs, .slice ya xl.length yk, .string xc] 24) = W0 at *
      generalize w6.heap.size = Y at *
      have HC0 : Hid (∀ W, Below W0.heap.size W0 W → W.cell? ⟨w.heap.size, 0, none⟩ = some (.int .i64 ep) ∧ W.cell? ⟨w.heap.size, 1, none⟩ = some (.string se) ∧ W.cell? ⟨w.heap.size, 2, none⟩ = some (.slice a n c) ∧ W.cell? ⟨w.heap.size, 3, none⟩ = some (.string sc) ∧ W.cell? ⟨w.heap.size + 1, 0, none⟩ = some (.int .i64 ep2) ∧ W.cell? ⟨w.heap.size + 1, 1, none⟩ = some (.string se2) ∧ W.cell? ⟨w.heap.size + 1, 2, none⟩ = some (.slice a2 n2 c2) ∧ W.cell? ⟨w.heap.size + 1, 3, none⟩ = some (.string sc2)) := fun W hW => HC.out W (HB.out.trans ((B7.out.trans (hW.mono B7.out.size)).mono HB.out.size))
      have HW0 : Hid (∀ W, Below W0.heap.size W0 W → Below w.heap.size w W) := fun W hW => HBw.out.trans ((B7.out.trans (hW.mono B7.out.size)).mono HBw.out.size)
      clear HC HB HBw B7
      have HSx : Hid (∀ W, Below W0.heap.size W0 W → W.cell? ⟨w.heap.size, 0, none⟩ = some (.int .i64 ep) ∧ W.cell? ⟨w.heap.size, 1, none⟩ = some (.string se) ∧ W.cell? ⟨w.heap.size, 2, none⟩ = some (.slice a n c) ∧ W.cell? ⟨w.heap.size, 3, none⟩ = some (.string sc) ∧ W.cell? ⟨w.heap.size + 1, 0, none⟩ = some (.int .i64 ep2) ∧ W.cell? ⟨w.heap.size + 1, 1, none⟩ = some (.string se2) ∧ W.cell? ⟨w.heap.size + 1, 2, none⟩ = some (.slice a2 n2 c2) ∧ W.cell? ⟨w.heap.size + 1, 3, none⟩ = some (.string sc2) ∧ W.cell? ⟨X, 0, none⟩ = some (.int .i64 xe) ∧ W.cell? ⟨X, 1, none⟩ = some (.string xs) ∧ W.cell? ⟨X, 2, none⟩ = some (.slice xa xl.length xk) ∧ W.cell? ⟨X, 3, none⟩ = some (.string xc) ∧ W.cell? ⟨Y, 0, none⟩ = some (.int .i64 xe) ∧ W.cell? ⟨Y, 1, none⟩ = some (.string xs) ∧ W.cell? ⟨Y, 2, none⟩ = some (.slice ya xl.length yk) ∧ W.cell? ⟨Y, 3, none⟩ = some (.string xc)) := fun W hW => by
        obtain ⟨c0, c1, c2, c3, c4, c5, c6, c7⟩ := HC0.out W hW
        have g1 := (hW.block _ (lt_of_heap HXx.out)).trans HXx.out
        have g2 := (hW.block _ (lt_of_heap HXy.out)).trans HXy.out
        exact ⟨c0, c1, c2, c3, c4, c5, c6, c7, cell_of_heap g1 0, cell_of_heap g1 1, cell_of_heap g1 2, cell_of_heap g1 3, cell_of_heap g2 0, cell_of_heap g2 1, cell_of_heap g2 2, cell_of_heap g2 3⟩
      have HTo0 : Hid (∀ W, Below W0.heap.size W0 W → Calls Tryd.prog 10 #[.agg #[.int .i64 ep, .string se, .slice a n c, .string sc]] W fun r w' => ∃ b d, r = .returned (.agg #[.int .i64 ep, .string se, .slice b ls.length d, .string sc]) ∧ SSl w' b ls.length ls ∧ Below W.heap.size W w') := fun W hW => HTo.out W (HW0.out W hW)
      have HTu0 : Hid (∀ W, Below W0.heap.size W0 W → Calls Tryd.prog 10 #[.agg #[.int .i64 ep2, .string se2, .slice a2 n2 c2, .string sc2]] W fun r w' => ∃ b d, r = .returned (.agg #[.int .i64 ep2, .string se2, .slice b ls2.length d, .string sc2]) ∧ SSl w' b ls2.length ls2 ∧ Below W.heap.size W w') := fun W hW => HTu.out W (HW0.out W hW)
      have HCk : Hid (∀ W b d, Below W0.heap.size W0 W → SSl W b ls.length ls → Calls Tryd.prog 14 #[.agg #[.int .i64 ep, .string se, .slice b ls.length d, .string sc]] W fun r w' => r = .returned (.int .i64 ck) ∧ Below W.heap.size W w') := fun W b d _ h => HCk0.out W b d h
      have HRk : Hid (∀ W, Below W0.heap.size W0 W → Calls Tryd.prog 15 #[.agg #[.int .i64 ep, .string se, .slice a n c, .string sc]] W fun r w' => r = .returned (.int .i64 ck) ∧ Below W.heap.size W w') := fun W hW => HRk0.out W (HW0.out W hW)
      have HOf : Hid (∀ W, Below W0.heap.size W0 W → Calls Tryd.prog 17 #[.agg #[.int .i64 xe, .string xs, .slice xa xl.length xk, .string xc]] W fun r w' => ∃ b d, r = .returned (.agg #[.int .i64 xe, .string xs, .slice b xl.length d, .string xc]) ∧ SSl w' b xl.length xl ∧ Below W.heap.size W w') := fun W hW => (of36_any xe xs xc xa xl.length xk xl W (Rx.out.later hW) HXl.out).mono (fun _ _ h => h.s)
      have HS1 : Hid (∀ W b d, Below W0.heap.size W0 W → SSl W b xl.length xl → Calls Tryd.prog 16 #[.agg #[.int .i64 xe, .string xs, .slice b xl.length d, .string xc], .agg #[.int .i64 xe, .string xs, .slice ya xl.length yk, .string xc]] W fun r w' => r = .returned (.bool true) ∧ Below W.heap.size W w') := fun W b d hW h => (rSame36_any xe xs xc b xl.length d xl xe xs xc ya xl.length yk xl W h (Ry.out.later hW) (by have := HXl.out; omega)).mono (fun r w' h => ⟨h.1.trans (by rw [decide_self]), h.2⟩)
      have HEq : Hid (∀ W b d b' d', Below W0.heap.size W0 W → SSl W b ls.length ls → SSl W b' ls2.length ls2 → Calls Tryd.prog 18 #[.agg #[.int .i64 ep, .string se, .slice b ls.length d, .string sc], .agg #[.int .i64 ep2, .string se2, .slice b' ls2.length d', .string sc2]] W fun r w' => r = .returned (.bool (decide ((⟨ep, se, ls, sc⟩ : TermT) = ⟨ep2, se2, ls2, sc2⟩))) ∧ Below W.heap.size W w') := fun W b d b' d' _ h h' => tEqual_any ep se sc b ls.length d ls ep2 se2 sc2 b' ls2.length d' ls2 W h h' (by omega)
      have HS2 : Hid (∀ W, Below W0.heap.size W0 W → Calls Tryd.prog 16 #[.agg #[.int .i64 ep, .string se, .slice a n c, .string sc], .agg #[.int .i64 ep2, .string se2, .slice a2 n2 c2, .string sc2]] W fun r w' => r = .returned (.bool (decide ((⟨ep, se, ls, sc⟩ : TermT) = ⟨ep2, se2, ls2, sc2⟩))) ∧ Below W.heap.size W w') := fun W hW => rSame36_any ep se sc a n c ls ep2 se2 sc2 a2 n2 c2 ls2 W (HL.out W (HW0.out W hW)) (HL2.out W (HW0.out W hW)) (by omega)
      have HE2 : Hid (∀ W b d b' d', Below W0.heap.size W0 W → SSl W b ls.length ls → SSl W b' ls.length ls → Calls Tryd.prog 18 #[.agg #[.int .i64 ep, .string se, .slice b ls.length d, .string sc], .agg #[.int .i64 ep, .string se, .slice b' ls.length d', .string sc]] W fun r w' => r = .returned (.bool true) ∧ Below W.heap.size W w') := fun W b d b' d' _ h h' => (tEqual_any ep se sc b ls.length d ls ep se sc b' ls.length d' ls W h h' (by omega)).mono (fun r w' h => ⟨h.1.trans (by rw [decide_self]), h.2⟩)
      have HS3 : Hid (∀ W b d, Below W0.heap.size W0 W → SSl W b ls.length ls → Calls Tryd.prog 16 #[.agg #[.int .i64 ep, .string se, .slice b ls.length d, .string sc], .agg #[.int .i64 ep, .string se, .slice a n c, .string sc]] W fun r w' => r = .returned (.bool true) ∧ Below W.heap.size W w') := fun W b d hW h => (rSame36_any ep se sc b ls.length d ls ep se sc a n c ls W h (HL.out W (HW0.out W hW)) (by omega)).mono (fun r w' h => ⟨h.1.trans (by rw [decide_self]), h.2⟩)
      have HCt := HC0
      clear HTo HTu HEn HRe HCk0 HRk0 HDe HDr Rx Ry HXx HXy HC0 HXl HL HL2 HLz Hls
      generalize decide ((⟨ep, se, ls, sc⟩ : TermT) = ⟨ep2, se2, ls2, sc2⟩) = eq1 at *
      have hxr : (ea.toList != ea.toList) = false := by simp
      have HD0 : Hid (Below W0.heap.size W0 W0.drew) := (Below.refl _ _).drew
      go_cut [144] (fun gv wx => gv = .bool false ∧ Hid (Below W0.heap.size W0 wx))
      case first =>
        cases eq1
        all_goals
          refine wp_region_held_drew (S := (fun W => W.cell? ⟨w.heap.size, 0, none⟩ = some (.int .i64 ep) ∧ W.cell? ⟨w.heap.size, 1, none⟩ = some (.string se) ∧ W.cell? ⟨w.heap.size, 2, none⟩ = some (.slice a n c) ∧ W.cell? ⟨w.heap.size, 3, none⟩ = some (.string sc) ∧ W.cell? ⟨w.heap.size + 1, 0, none⟩ = some (.int .i64 ep2) ∧ W.cell? ⟨w.heap.size + 1, 1, none⟩ = some (.string se2) ∧ W.cell? ⟨w.heap.size + 1, 2, none⟩ = some (.slice a2 n2 c2) ∧ W.cell? ⟨w.heap.size + 1, 3, none⟩ = some (.string sc2) ∧ W.cell? ⟨X, 0, none⟩ = some (.int .i64 xe) ∧ W.cell? ⟨X, 1, none⟩ = some (.string xs) ∧ W.cell? ⟨X, 2, none⟩ = some (.slice xa xl.length xk) ∧ W.cell? ⟨X, 3, none⟩ = some (.string xc) ∧ W.cell? ⟨Y, 0, none⟩ = some (.int .i64 xe) ∧ W.cell? ⟨Y, 1, none⟩ = some (.string xs) ∧ W.cell? ⟨Y, 2, none⟩ = some (.slice ya xl.length yk) ∧ W.cell? ⟨Y, 3, none⟩ = some (.string xc))) (by kernel_rfl) (HSx.out _ HD0.out) (fun hHeld0 => ?_)
          refine wpAnyH_take (i := 0) (v := ?_) rfl (by kernel_rfl) (by kernel_rfl) (by kernel_rfl) (fun _ _ _ h => h) (Or.inl ⟨by rfl, ?_⟩) (by assumption) ?_
          rotate_left
          · (intro wx hSw; (try dsimp only at hSw); go_simp <;> with_reducible rfl)
          try simp only [Act.put, List.setIfInBounds_toArray, List.set_cons_zero, List.set_cons_succ, List.getElem_toArray, List.getElem_cons_zero, List.getElem_cons_succ]
          refine wpAnyH_take (i := 3) (v := ?_) rfl (by kernel_rfl) (by kernel_rfl) (by kernel_rfl) (fun _ _ _ h => h) (Or.inl ⟨by rfl, ?_⟩) (by assumption) ?_
          rotate_left
          · (intro wx hSw; (try dsimp only at hSw); go_simp <;> with_reducible rfl)
          try simp only [Act.put, List.setIfInBounds_toArray, List.set_cons_zero, List.set_cons_succ, List.getElem_toArray, List.getElem_cons_zero, List.getElem_cons_succ]
          refine wpAnyH_ready (rs := [1]) (by kernel_rfl) (by simp) ?_
          refine AllReadyH.cons rfl (fun K hK => ?_) AllReadyH.nil
          go_simp
          go_at_call 10
          (with_reducible refine (HTo0.out _ HD0.out).mono ?_)
          rintro r v1 ⟨a1, k1, rfl, hr1, hb⟩
          have B1 : Hid (Below W0.heap.size W0 v1) := HD0.out.trans (hb.mono HD0.out.size)
          have R1 := Lib.hid hr1
          clear hr1
          clear hb
          go_wp2_with fail
          refine hK.out _ _ (HSx.out _ B1.out) (fun hHeld1 => ?_)
          clear hK K hHeld0
          try simp only [Act.put, List.setIfInBounds_toArray, List.set_cons_zero, List.set_cons_succ, List.getElem_toArray, List.getElem_cons_zero, List.getElem_cons_succ]
          refine wpAnyH_ready (rs := [2]) (by kernel_rfl) (by simp) ?_
          refine AllReadyH.cons rfl (fun K hK => ?_) AllReadyH.nil
          go_simp
          go_at_call 14
          (with_reducible refine (HCk.out _ _ _ B1.out R1.out).mono ?_)
          rintro r v2 ⟨rfl, hb⟩
          have B2 : Hid (Below W0.heap.size W0 v2) := B1.out.trans (hb.mono B1.out.size)
          clear hb
          go_wp2_with fail
          refine hK.out _ _ (HSx.out _ B2.out) (fun hHeld2 => ?_)
          clear hK K hHeld1
          try simp only [Act.put, List.setIfInBounds_toArray, List.set_cons_zero, List.set_cons_succ, List.getElem_toArray, List.getElem_cons_zero, List.getElem_cons_succ]
          refine wpAnyH_ready (rs := [4]) (by kernel_rfl) (by simp) ?_
          refine AllReadyH.cons rfl (fun K hK => ?_) AllReadyH.nil
          go_simp
          go_at_call 15
          (with_reducible refine (HRk.out _ B2.out).mono ?_)
          rintro r v3 ⟨rfl, hb⟩
          have B3 : Hid (Below W0.heap.size W0 v3) := B2.out.trans (hb.mono B2.out.size)
          clear hb
          go_wp2_with fail
          refine hK.out _ _ (HSx.out _ B3.out) (fun hHeld3 => ?_)
          clear hK K hHeld2
          try simp only [Act.put, List.setIfInBounds_toArray, List.set_cons_zero, List.set_cons_succ, List.getElem_toArray, List.getElem_cons_zero, List.getElem_cons_succ]
          refine wpAnyH_take (i := 5) (v := ?_) rfl (by kernel_rfl) (by kernel_rfl) (by kernel_rfl) (fun _ _ _ h => h) (Or.inl ⟨by rfl, ?_⟩) (by assumption) ?_
          rotate_left
          · (intro wx hSw; (try dsimp only at hSw); go_simp <;> with_reducible rfl)
          try simp only [Act.put, List.setIfInBounds_toArray, List.set_cons_zero, List.set_cons_succ, List.getElem_toArray, List.getElem_cons_zero, List.getElem_cons_succ]
          refine wpAnyH_take (i := 6) (v := ?_) rfl (by kernel_rfl) (by kernel_rfl) (by kernel_rfl) (fun _ _ _ h => h) (Or.inl ⟨by rfl, ?_⟩) (by assumption) ?_
          rotate_left
          · (intro wx hSw; (try dsimp only at hSw); go_simp <;> with_reducible rfl)
          try simp only [Act.put, List.setIfInBounds_toArray, List.set_cons_zero, List.set_cons_succ, List.getElem_toArray, List.getElem_cons_zero, List.getElem_cons_succ]
          refine wpAnyH_take (i := 7) (v := ?_) rfl (by kernel_rfl) (by kernel_rfl) (by kernel_rfl) (fun _ _ _ h => h) (Or.inl ⟨by rfl, ?_⟩) (by assumption) ?_
          rotate_left
          · (intro wx hSw; (try dsimp only at hSw); go_simp <;> with_reducible rfl)
          try simp only [Act.put, List.setIfInBounds_toArray, List.set_cons_zero, List.set_cons_succ, List.getElem_toArray, List.getElem_cons_zero, List.getElem_cons_succ]
          refine wpAnyH_take (i := 8) (v := ?_) rfl (by kernel_rfl) (by kernel_rfl) (by kernel_rfl) (fun _ _ _ h => h) (Or.inl ⟨by rfl, ?_⟩) (by assumption) ?_
          rotate_left
          · (intro wx hSw; (try dsimp only at hSw); go_simp <;> with_reducible rfl)
          try simp only [Act.put, List.setIfInBounds_toArray, List.set_cons_zero, List.set_cons_succ, List.getElem_toArray, List.getElem_cons_zero, List.getElem_cons_succ]
          refine wpAnyH_take (i := 9) (v := ?_) rfl (by kernel_rfl) (by kernel_rfl) (by kernel_rfl) (fun _ _ _ h => h) (Or.inl ⟨by rfl, ?_⟩) (by assumption) ?_
          rotate_left
          · (intro wx hSw; (try dsimp only at hSw); go_simp <;> with_reducible rfl)
          try simp only [Act.put, List.setIfInBounds_toArray, List.set_cons_zero, List.set_cons_succ, List.getElem_toArray, List.getElem_cons_zero, List.getElem_cons_succ]
          refine wpAnyH_take (i := 10) (v := ?_) rfl (by kernel_rfl) (by kernel_rfl) (by kernel_rfl) (fun _ _ _ h => h) (Or.inl ⟨by rfl, ?_⟩) (by assumption) ?_
          rotate_left
          · (intro wx hSw; (try dsimp only at hSw); go_simp <;> with_reducible rfl)
          try simp only [Act.put, List.setIfInBounds_toArray, List.set_cons_zero, List.set_cons_succ, List.getElem_toArray, List.getElem_cons_zero, List.getElem_cons_succ]
          refine wpAnyH_take (i := 11) (v := ?_) rfl (by kernel_rfl) (by kernel_rfl) (by kernel_rfl) (fun _ _ _ h => h) (Or.inl ⟨by rfl, ?_⟩) (by assumption) ?_
          rotate_left
          · (intro wx hSw; (try dsimp only at hSw); go_simp <;> with_reducible rfl)
          try simp only [Act.put, List.setIfInBounds_toArray, List.set_cons_zero, List.set_cons_succ, List.getElem_toArray, List.getElem_cons_zero, List.getElem_cons_succ]
          refine wpAnyH_take (i := 12) (v := ?_) rfl (by kernel_rfl) (by kernel_rfl) (by kernel_rfl) (fun _ _ _ h => h) (Or.inl ⟨by rfl, ?_⟩) (by assumption) ?_
          rotate_left
          · (intro wx hSw; (try dsimp only at hSw); go_simp <;> with_reducible rfl)
          try simp only [Act.put, List.setIfInBounds_toArray, List.set_cons_zero, List.set_cons_succ, List.getElem_toArray, List.getElem_cons_zero, List.getElem_cons_succ]
          refine wpAnyH_take (i := 13) (v := ?_) rfl (by kernel_rfl) (by kernel_rfl) (by kernel_rfl) (fun _ _ _ h => h) (Or.inl ⟨by rfl, ?_⟩) (by assumption) ?_
          rotate_left
          · (intro wx hSw; (try dsimp only at hSw); go_simp <;> with_reducible rfl)
          try simp only [Act.put, List.setIfInBounds_toArray, List.set_cons_zero, List.set_cons_succ, List.getElem_toArray, List.getElem_cons_zero, List.getElem_cons_succ]
          refine wpAnyH_take (i := 14) (v := ?_) rfl (by kernel_rfl) (by kernel_rfl) (by kernel_rfl) (fun _ _ _ h => h) (Or.inl ⟨by rfl, ?_⟩) (by assumption) ?_
          rotate_left
          · (intro wx hSw; (try dsimp only at hSw); go_simp <;> with_reducible rfl)
          try simp only [Act.put, List.setIfInBounds_toArray, List.set_cons_zero, List.set_cons_succ, List.getElem_toArray, List.getElem_cons_zero, List.getElem_cons_succ]
          refine wpAnyH_take (i := 15) (v := ?_) rfl (by kernel_rfl) (by kernel_rfl) (by kernel_rfl) (fun _ _ _ h => h) (Or.inl ⟨by rfl, ?_⟩) (by assumption) ?_
          rotate_left
          · (intro wx hSw; (try dsimp only at hSw); go_simp <;> with_reducible rfl)
          try simp only [Act.put, List.setIfInBounds_toArray, List.set_cons_zero, List.set_cons_succ, List.getElem_toArray, List.getElem_cons_zero, List.getElem_cons_succ]
          refine wpAnyH_take (i := 16) (v := ?_) rfl (by kernel_rfl) (by kernel_rfl) (by kernel_rfl) (fun _ _ _ h => h) (Or.inl ⟨by rfl, ?_⟩) (by assumption) ?_
          rotate_left
          · (intro wx hSw; (try dsimp only at hSw); go_simp <;> with_reducible rfl)
          try simp only [Act.put, List.setIfInBounds_toArray, List.set_cons_zero, List.set_cons_succ, List.getElem_toArray, List.getElem_cons_zero, List.getElem_cons_succ]
          refine wpAnyH_take (i := 17) (v := ?_) rfl (by kernel_rfl) (by kernel_rfl) (by kernel_rfl) (fun _ _ _ h => h) (Or.inl ⟨by rfl, ?_⟩) (by assumption) ?_
          rotate_left
          · (intro wx hSw; (try dsimp only at hSw); go_simp <;> with_reducible rfl)
          try simp only [Act.put, List.setIfInBounds_toArray, List.set_cons_zero, List.set_cons_succ, List.getElem_toArray, List.getElem_cons_zero, List.getElem_cons_succ]
          refine wpAnyH_take (i := 19) (v := ?_) rfl (by kernel_rfl) (by kernel_rfl) (by kernel_rfl) (fun _ _ _ h => h) (Or.inl ⟨by rfl, ?_⟩) (by assumption) ?_
          rotate_left
          · (intro wx hSw; (try dsimp only at hSw); go_simp <;> with_reducible rfl)
          try simp only [Act.put, List.setIfInBounds_toArray, List.set_cons_zero, List.set_cons_succ, List.getElem_toArray, List.getElem_cons_zero, List.getElem_cons_succ]
          refine wpAnyH_ready (rs := [18]) (by kernel_rfl) (by simp) ?_
          refine AllReadyH.cons rfl (fun K hK => ?_) AllReadyH.nil
          go_simp
          go_at_call 17
          (with_reducible refine (HOf.out _ B3.out).mono ?_)
          rintro r v4 ⟨a4, k4, rfl, hr4, hb⟩
          have B4 : Hid (Below W0.heap.size W0 v4) := B3.out.trans (hb.mono B3.out.size)
          have R4 := Lib.hid hr4
          clear hr4
          clear hb
          go_wp2_with fail
          refine hK.out _ _ (HSx.out _ B4.out) (fun hHeld4 => ?_)
          clear hK K hHeld3
          try simp only [Act.put, List.setIfInBounds_toArray, List.set_cons_zero, List.set_cons_succ, List.getElem_toArray, List.getElem_cons_zero, List.getElem_cons_succ]
          refine wpAnyH_ready (rs := [20]) (by kernel_rfl) (by simp) ?_
          refine AllReadyH.cons rfl (fun K hK => ?_) AllReadyH.nil
          go_simp
          go_at_call 16
          (with_reducible refine (HS1.out _ _ _ B4.out R4.out).mono ?_)
          rintro r v5 ⟨rfl, hb⟩
          have B5 : Hid (Below W0.heap.size W0 v5) := B4.out.trans (hb.mono B4.out.size)
          clear hb
          go_wp2_with fail
          refine hK.out _ _ (HSx.out _ B5.out) (fun hHeld5 => ?_)
          clear hK K hHeld4
          try simp only [Act.put, List.setIfInBounds_toArray, List.set_cons_zero, List.set_cons_succ, List.getElem_toArray, List.getElem_cons_zero, List.getElem_cons_succ]
          refine wpAnyH_take (i := 21) (v := ?_) rfl (by kernel_rfl) (by kernel_rfl) (by kernel_rfl) (fun _ _ _ h => h) (Or.inl ⟨by rfl, ?_⟩) (by assumption) ?_
          rotate_left
          · (intro wx hSw; (try dsimp only at hSw); go_simp <;> with_reducible rfl)
          try simp only [Act.put, List.setIfInBounds_toArray, List.set_cons_zero, List.set_cons_succ, List.getElem_toArray, List.getElem_cons_zero, List.getElem_cons_succ]
          refine wpAnyH_take (i := 22) (v := ?_) rfl (by kernel_rfl) (by kernel_rfl) (by kernel_rfl) (fun _ _ _ h => h) (Or.inl ⟨by rfl, ?_⟩) (by assumption) ?_
          rotate_left
          · (intro wx hSw; (try dsimp only at hSw); go_simp <;> with_reducible rfl)
          try simp only [Act.put, List.setIfInBounds_toArray, List.set_cons_zero, List.set_cons_succ, List.getElem_toArray, List.getElem_cons_zero, List.getElem_cons_succ]
          refine wpAnyH_take (i := 23) (v := ?_) rfl (by kernel_rfl) (by kernel_rfl) (by kernel_rfl) (fun _ _ _ h => h) (Or.inl ⟨by rfl, ?_⟩) (by assumption) ?_
          rotate_left
          · (intro wx hSw; (try dsimp only at hSw); go_simp <;> with_reducible rfl)
          try simp only [Act.put, List.setIfInBounds_toArray, List.set_cons_zero, List.set_cons_succ, List.getElem_toArray, List.getElem_cons_zero, List.getElem_cons_succ]
          refine wpAnyH_take (i := 24) (v := ?_) rfl (by kernel_rfl) (by kernel_rfl) (by kernel_rfl) (fun _ _ _ h => h) (Or.inl ⟨by rfl, ?_⟩) (by assumption) ?_
          rotate_left
          · (intro wx hSw; (try dsimp only at hSw); go_simp <;> with_reducible rfl)
          try simp only [Act.put, List.setIfInBounds_toArray, List.set_cons_zero, List.set_cons_succ, List.getElem_toArray, List.getElem_cons_zero, List.getElem_cons_succ]
          refine wpAnyH_take (i := 25) (v := ?_) rfl (by kernel_rfl) (by kernel_rfl) (by kernel_rfl) (fun _ _ _ h => h) (Or.inl ⟨by rfl, ?_⟩) (by assumption) ?_
          rotate_left
          · (intro wx hSw; (try dsimp only at hSw); go_simp <;> with_reducible rfl)
          try simp only [Act.put, List.setIfInBounds_toArray, List.set_cons_zero, List.set_cons_succ, List.getElem_toArray, List.getElem_cons_zero, List.getElem_cons_succ]
          refine wpAnyH_take (i := 26) (v := ?_) rfl (by kernel_rfl) (by kernel_rfl) (by kernel_rfl) (fun _ _ _ h => h) (Or.inl ⟨by rfl, ?_⟩) (by assumption) ?_
          rotate_left
          · (intro wx hSw; (try dsimp only at hSw); go_simp <;> with_reducible rfl)
          try simp only [Act.put, List.setIfInBounds_toArray, List.set_cons_zero, List.set_cons_succ, List.getElem_toArray, List.getElem_cons_zero, List.getElem_cons_succ]
          refine wpAnyH_take (i := 27) (v := ?_) rfl (by kernel_rfl) (by kernel_rfl) (by kernel_rfl) (fun _ _ _ h => h) (Or.inl ⟨by rfl, ?_⟩) (by assumption) ?_
          rotate_left
          · (intro wx hSw; (try dsimp only at hSw); go_simp <;> with_reducible rfl)
          try simp only [Act.put, List.setIfInBounds_toArray, List.set_cons_zero, List.set_cons_succ, List.getElem_toArray, List.getElem_cons_zero, List.getElem_cons_succ]
          refine wpAnyH_take (i := 28) (v := ?_) rfl (by kernel_rfl) (by kernel_rfl) (by kernel_rfl) (fun _ _ _ h => h) (Or.inl ⟨by rfl, ?_⟩) (by assumption) ?_
          rotate_left
          · (intro wx hSw; (try dsimp only at hSw); go_simp <;> with_reducible rfl)
          try simp only [Act.put, List.setIfInBounds_toArray, List.set_cons_zero, List.set_cons_succ, List.getElem_toArray, List.getElem_cons_zero, List.getElem_cons_succ]
          refine wpAnyH_take (i := 29) (v := ?_) rfl (by kernel_rfl) (by kernel_rfl) (by kernel_rfl) (fun _ _ _ h => h) (Or.inl ⟨by rfl, ?_⟩) (by assumption) ?_
          rotate_left
          · (intro wx hSw; (try dsimp only at hSw); go_simp <;> with_reducible rfl)
          try simp only [Act.put, List.setIfInBounds_toArray, List.set_cons_zero, List.set_cons_succ, List.getElem_toArray, List.getElem_cons_zero, List.getElem_cons_succ]
          refine wpAnyH_take (i := 31) (v := ?_) rfl (by kernel_rfl) (by kernel_rfl) (by kernel_rfl) (fun _ _ _ h => h) (Or.inl ⟨by rfl, ?_⟩) (by assumption) ?_
          rotate_left
          · (intro wx hSw; (try dsimp only at hSw); go_simp <;> with_reducible rfl)
          try simp only [Act.put, List.setIfInBounds_toArray, List.set_cons_zero, List.set_cons_succ, List.getElem_toArray, List.getElem_cons_zero, List.getElem_cons_succ]
          refine wpAnyH_take (i := 34) (v := ?_) rfl (by kernel_rfl) (by kernel_rfl) (by kernel_rfl) (fun _ _ _ h => h) (Or.inl ⟨by rfl, ?_⟩) (by assumption) ?_
          rotate_left
          · (intro wx hSw; (try dsimp only at hSw); go_simp <;> with_reducible rfl)
          try simp only [Act.put, List.setIfInBounds_toArray, List.set_cons_zero, List.set_cons_succ, List.getElem_toArray, List.getElem_cons_zero, List.getElem_cons_succ]
          refine wpAnyH_take (i := 35) (v := ?_) rfl (by kernel_rfl) (by kernel_rfl) (by kernel_rfl) (fun _ _ _ h => h) (Or.inl ⟨by rfl, ?_⟩) (by assumption) ?_
          rotate_left
          · (intro wx hSw; (try dsimp only at hSw); go_simp <;> with_reducible rfl)
          try simp only [Act.put, List.setIfInBounds_toArray, List.set_cons_zero, List.set_cons_succ, List.getElem_toArray, List.getElem_cons_zero, List.getElem_cons_succ]
          refine wpAnyH_ready (rs := [30]) (by kernel_rfl) (by simp) ?_
          refine AllReadyH.cons rfl (fun K hK => ?_) AllReadyH.nil
          go_simp
          go_at_call 10
          (with_reducible refine (HTo0.out _ B5.out).mono ?_)
          rintro r v6 ⟨a6, k6, rfl, hr6, hb⟩
          have B6 : Hid (Below W0.heap.size W0 v6) := B5.out.trans (hb.mono B5.out.size)
          have R6 := Lib.hid hr6
          clear hr6
          clear hb
          go_wp2_with fail
          refine hK.out _ _ (HSx.out _ B6.out) (fun hHeld6 => ?_)
          clear hK K hHeld5
          try simp only [Act.put, List.setIfInBounds_toArray, List.set_cons_zero, List.set_cons_succ, List.getElem_toArray, List.getElem_cons_zero, List.getElem_cons_succ]
          refine wpAnyH_ready (rs := [32]) (by kernel_rfl) (by simp) ?_
          refine AllReadyH.cons rfl (fun K hK => ?_) AllReadyH.nil
          go_simp
          go_at_call 10
          (with_reducible refine (HTu0.out _ B6.out).mono ?_)
          rintro r v7 ⟨a7, k7, rfl, hr7, hb⟩
          have B7 : Hid (Below W0.heap.size W0 v7) := B6.out.trans (hb.mono B6.out.size)
          have R7 := Lib.hid hr7
          clear hr7
          have R67 := Lib.hid (R6.out.later hb)
          clear hb
          go_wp2_with fail
          refine hK.out _ _ (HSx.out _ B7.out) (fun hHeld7 => ?_)
          clear hK K hHeld6
          try simp only [Act.put, List.setIfInBounds_toArray, List.set_cons_zero, List.set_cons_succ, List.getElem_toArray, List.getElem_cons_zero, List.getElem_cons_succ]
          refine wpAnyH_ready (rs := [33]) (by kernel_rfl) (by simp) ?_
          refine AllReadyH.cons rfl (fun K hK => ?_) AllReadyH.nil
          go_simp
          go_at_call 18
          (with_reducible refine (HEq.out _ _ _ _ _ B7.out R67.out R7.out).mono ?_)
          rintro r v8 ⟨rfl, hb⟩
          have B8 : Hid (Below W0.heap.size W0 v8) := B7.out.trans (hb.mono B7.out.size)
          clear hb
          go_wp2_with fail
          refine hK.out _ _ (HSx.out _ B8.out) (fun hHeld8 => ?_)
          clear hK K hHeld7
          try simp only [Act.put, List.setIfInBounds_toArray, List.set_cons_zero, List.set_cons_succ, List.getElem_toArray, List.getElem_cons_zero, List.getElem_cons_succ]
          refine wpAnyH_ready (rs := [36]) (by kernel_rfl) (by simp) ?_
          refine AllReadyH.cons rfl (fun K hK => ?_) AllReadyH.nil
          go_simp
          go_at_call 16
          (with_reducible refine (HS2.out _ B8.out).mono ?_)
          rintro r v9 ⟨rfl, hb⟩
          have B9 : Hid (Below W0.heap.size W0 v9) := B8.out.trans (hb.mono B8.out.size)
          clear hb
          go_wp2_with fail
          refine hK.out _ _ (HSx.out _ B9.out) (fun hHeld9 => ?_)
          clear hK K hHeld8
          try simp only [Act.put, List.setIfInBounds_toArray, List.set_cons_zero, List.set_cons_succ, List.getElem_toArray, List.getElem_cons_zero, List.getElem_cons_succ]
          refine wpAnyH_take (i := 37) (v := ?_) rfl (by kernel_rfl) (by kernel_rfl) (by kernel_rfl) (fun _ _ _ h => h) (Or.inl ⟨by rfl, ?_⟩) (by assumption) ?_
          rotate_left
          · (intro wx hSw; (try dsimp only at hSw); go_simp <;> with_reducible rfl)
          try simp only [Act.put, List.setIfInBounds_toArray, List.set_cons_zero, List.set_cons_succ, List.getElem_toArray, List.getElem_cons_zero, List.getElem_cons_succ]
          refine wpAnyH_take (i := 38) (v := ?_) rfl (by kernel_rfl) (by kernel_rfl) (by kernel_rfl) (fun _ _ _ h => h) (Or.inl ⟨by rfl, ?_⟩) (by assumption) ?_
          rotate_left
          · (intro wx hSw; (try dsimp only at hSw); go_simp <;> with_reducible rfl)
          try simp only [Act.put, List.setIfInBounds_toArray, List.set_cons_zero, List.set_cons_succ, List.getElem_toArray, List.getElem_cons_zero, List.getElem_cons_succ]
          refine wpAnyH_take (i := 39) (v := ?_) rfl (by kernel_rfl) (by kernel_rfl) (by kernel_rfl) (fun _ _ _ h => h) (Or.inl ⟨by rfl, ?_⟩) (by assumption) ?_
          rotate_left
          · (intro wx hSw; (try dsimp only at hSw); go_simp <;> with_reducible rfl)
          try simp only [Act.put, List.setIfInBounds_toArray, List.set_cons_zero, List.set_cons_succ, List.getElem_toArray, List.getElem_cons_zero, List.getElem_cons_succ]
          refine wpAnyH_take (i := 40) (v := ?_) rfl (by kernel_rfl) (by kernel_rfl) (by kernel_rfl) (fun _ _ _ h => h) (Or.inl ⟨by rfl, ?_⟩) (by assumption) ?_
          rotate_left
          · (intro wx hSw; (try dsimp only at hSw); go_simp <;> with_reducible rfl)
          try simp only [Act.put, List.setIfInBounds_toArray, List.set_cons_zero, List.set_cons_succ, List.getElem_toArray, List.getElem_cons_zero, List.getElem_cons_succ]
          refine wpAnyH_take (i := 42) (v := ?_) rfl (by kernel_rfl) (by kernel_rfl) (by kernel_rfl) (fun _ _ _ h => h) (Or.inl ⟨by rfl, ?_⟩) (by assumption) ?_
          rotate_left
          · (intro wx hSw; (try dsimp only at hSw); go_simp <;> with_reducible rfl)
          try simp only [Act.put, List.setIfInBounds_toArray, List.set_cons_zero, List.set_cons_succ, List.getElem_toArray, List.getElem_cons_zero, List.getElem_cons_succ]
          refine wpAnyH_ready (rs := [41]) (by kernel_rfl) (by simp) ?_
          refine AllReadyH.cons rfl (fun K hK => ?_) AllReadyH.nil
          go_simp
          go_at_call 10
          (with_reducible refine (HTo0.out _ B9.out).mono ?_)
          rintro r v10 ⟨a10, k10, rfl, hr10, hb⟩
          have B10 : Hid (Below W0.heap.size W0 v10) := B9.out.trans (hb.mono B9.out.size)
          have R10 := Lib.hid hr10
          clear hr10
          clear hb
          go_wp2_with fail
          refine hK.out _ _ (HSx.out _ B10.out) (fun hHeld10 => ?_)
          clear hK K hHeld9
          try simp only [Act.put, List.setIfInBounds_toArray, List.set_cons_zero, List.set_cons_succ, List.getElem_toArray, List.getElem_cons_zero, List.getElem_cons_succ]
          refine wpAnyH_ready (rs := [43]) (by kernel_rfl) (by simp) ?_
          refine AllReadyH.cons rfl (fun K hK => ?_) AllReadyH.nil
          go_simp
          go_at_call 10
          (with_reducible refine (HTo0.out _ B10.out).mono ?_)
          rintro r v11 ⟨a11, k11, rfl, hr11, hb⟩
          have B11 : Hid (Below W0.heap.size W0 v11) := B10.out.trans (hb.mono B10.out.size)
          have R11 := Lib.hid hr11
          clear hr11
          have R1011 := Lib.hid (R10.out.later hb)
          clear hb
          go_wp2_with fail
          refine hK.out _ _ (HSx.out _ B11.out) (fun hHeld11 => ?_)
          clear hK K hHeld10
          try simp only [Act.put, List.setIfInBounds_toArray, List.set_cons_zero, List.set_cons_succ, List.getElem_toArray, List.getElem_cons_zero, List.getElem_cons_succ]
          refine wpAnyH_ready (rs := [44]) (by kernel_rfl) (by simp) ?_
          refine AllReadyH.cons rfl (fun K hK => ?_) AllReadyH.nil
          go_simp
          go_at_call 18
          (with_reducible refine (HE2.out _ _ _ _ _ B11.out R1011.out R11.out).mono ?_)
          rintro r v12 ⟨rfl, hb⟩
          have B12 : Hid (Below W0.heap.size W0 v12) := B11.out.trans (hb.mono B11.out.size)
          clear hb
          go_wp2_with fail
          refine hK.out _ _ (HSx.out _ B12.out) (fun hHeld12 => ?_)
          clear hK K hHeld11
          try simp only [Act.put, List.setIfInBounds_toArray, List.set_cons_zero, List.set_cons_succ, List.getElem_toArray, List.getElem_cons_zero, List.getElem_cons_succ]
          refine wpAnyH_take (i := 45) (v := ?_) rfl (by kernel_rfl) (by kernel_rfl) (by kernel_rfl) (fun _ _ _ h => h) (Or.inl ⟨by rfl, ?_⟩) (by assumption) ?_
          rotate_left
          · (intro wx hSw; (try dsimp only at hSw); go_simp <;> with_reducible rfl)
          try simp only [Act.put, List.setIfInBounds_toArray, List.set_cons_zero, List.set_cons_succ, List.getElem_toArray, List.getElem_cons_zero, List.getElem_cons_succ]
          refine wpAnyH_take (i := 46) (v := ?_) rfl (by kernel_rfl) (by kernel_rfl) (by kernel_rfl) (fun _ _ _ h => h) (Or.inl ⟨by rfl, ?_⟩) (by assumption) ?_
          rotate_left
          · (intro wx hSw; (try dsimp only at hSw); go_simp <;> with_reducible rfl)
          try simp only [Act.put, List.setIfInBounds_toArray, List.set_cons_zero, List.set_cons_succ, List.getElem_toArray, List.getElem_cons_zero, List.getElem_cons_succ]
          refine wpAnyH_done (by kernel_rfl) ?_ _
          go_wp2
          go_meet
          exact ⟨rfl, B12.out⟩
      case rest =>
        obtain ⟨rfl, HB7⟩ := hcut
        clear HTo0 HTu0 HCk HRk HOf HS1 HEq HS2 HE2 HSx HD0 hxr
        have HDa : Hid (∀ W, Calls Tryd.prog 12 #[.string ea] W (TermPost W (decT ea).1 (decT ea).2)) := fun W => decode_any ea W (by have := HEz.out; omega) (by have := HEz.out; omega)
        by_cases h0 : ee = 0
        · have hck : ck = 0 := by rw [← HEe.out]; exact h0
          have hda := HEd.out hck
          rw [hda] at HDa
          clear hda hck HEd HEe HEz
          subst h0
          dsimp only at HDa
          go_wp2_with fail
          refine (HDa.out _).mono ?_
          rintro r w8 h8
          obtain ⟨za, zk, rfl, hr8, hbb⟩ := h8.s
          clear h8
          dsimp only at hr8 ⊢
          have B8 : Hid (Below W0.heap.size W0 w8) := HB7.out.trans (hbb.mono HB7.out.size)
          have R8 := Lib.hid hr8
          clear hr8 hbb HB7
          have HA8 : Hid (∀ o, Below w8.heap.size w8 (w8.alloc o)) := fun o => (Below.refl _ _).alloc (Nat.le_refl _) _
          have HX8 : Hid (∀ o, (w8.alloc o).heap[w8.heap.size]? = some o) := fun o => heap_alloc_new w8 o
          go_upto_region 17 with fail
          have B9 := Lib.hid (B8.out.trans ((HA8.out (.cells #[.int .i64 ep, .string se, .slice za ls.length zk, .string sc] 33)).mono B8.out.size))
          have HX9 := Lib.hid (HX8.out (.cells #[.int .i64 ep, .string se, .slice za ls.length zk, .string sc] 33))
          have R9 := Lib.hid (R8.out.later (HA8.out (.cells #[.int .i64 ep, .string se, .slice za ls.length zk, .string sc] 33)))
          clear HA8 HX8 R8 B8
          generalize w8.alloc (.cells #[.int .i64 ep, .string se, .slice za ls.length zk, .string sc] 33) = V0 at *
          generalize w8.heap.size = Z at *
          have HSx : Hid (∀ W, Below V0.heap.size V0 W → W.cell? ⟨w.heap.size, 0, none⟩ = some (.int .i64 ep) ∧ W.cell? ⟨w.heap.size, 1, none⟩ = some (.string se) ∧ W.cell? ⟨w.heap.size, 2, none⟩ = some (.slice a n c) ∧ W.cell? ⟨w.heap.size, 3, none⟩ = some (.string sc) ∧ W.cell? ⟨Z, 0, none⟩ = some (.int .i64 ep) ∧ W.cell? ⟨Z, 1, none⟩ = some (.string se) ∧ W.cell? ⟨Z, 2, none⟩ = some (.slice za ls.length zk) ∧ W.cell? ⟨Z, 3, none⟩ = some (.string sc)) := fun W hW => by
            obtain ⟨c0, c1, c2, c3, -⟩ := HCt.out W (B9.out.trans (hW.mono B9.out.size))
            have g1 := (hW.block _ (lt_of_heap HX9.out)).trans HX9.out
            exact ⟨c0, c1, c2, c3, cell_of_heap g1 0, cell_of_heap g1 1, cell_of_heap g1 2, cell_of_heap g1 3⟩
          have HOf : Hid (∀ W, Below V0.heap.size V0 W → Calls Tryd.prog 17 #[.agg #[.int .i64 ep, .string se, .slice za ls.length zk, .string sc]] W fun r w' => ∃ b d, r = .returned (.agg #[.int .i64 ep, .string se, .slice b ls.length d, .string sc]) ∧ SSl w' b ls.length ls ∧ Below W.heap.size W w') := fun W hW => (of36_any ep se sc za ls.length zk ls W (R9.out.later hW) (by omega)).mono (fun _ _ h => h.s)
          have HS1 : Hid (∀ W b d, Below V0.heap.size V0 W → SSl W b ls.length ls → Calls Tryd.prog 16 #[.agg #[.int .i64 ep, .string se, .slice b ls.length d, .string sc], .agg #[.int .i64 ep, .string se, .slice a n c, .string sc]] W fun r w' => r = .returned (.bool true) ∧ Below W.heap.size W w') := fun W b d hW h => HS3.out W b d (B9.out.trans (hW.mono B9.out.size)) h
          have HD0 : Hid (Below V0.heap.size V0 V0.drew) := (Below.refl _ _).drew
          clear HDa HX9 R9 HCt HS3
          refine wp_region_held_drew (S := (fun W => W.cell? ⟨w.heap.size, 0, none⟩ = some (.int .i64 ep) ∧ W.cell? ⟨w.heap.size, 1, none⟩ = some (.string se) ∧ W.cell? ⟨w.heap.size, 2, none⟩ = some (.slice a n c) ∧ W.cell? ⟨w.heap.size, 3, none⟩ = some (.string sc) ∧ W.cell? ⟨Z, 0, none⟩ = some (.int .i64 ep) ∧ W.cell? ⟨Z, 1, none⟩ = some (.string se) ∧ W.cell? ⟨Z, 2, none⟩ = some (.slice za ls.length zk) ∧ W.cell? ⟨Z, 3, none⟩ = some (.string sc))) (by kernel_rfl) (HSx.out _ HD0.out) (fun hHeld0 => ?_)
          refine wpAnyH_take (i := 0) (v := ?_) rfl (by kernel_rfl) (by kernel_rfl) (by kernel_rfl) (fun _ _ _ h => h) (Or.inl ⟨by rfl, ?_⟩) (by assumption) ?_
          rotate_left
          · (intro wx hSw; (try dsimp only at hSw); go_simp <;> with_reducible rfl)
          try simp only [Act.put, List.setIfInBounds_toArray, List.set_cons_zero, List.set_cons_succ, List.getElem_toArray, List.getElem_cons_zero, List.getElem_cons_succ]
          refine wpAnyH_take (i := 1) (v := ?_) rfl (by kernel_rfl) (by kernel_rfl) (by kernel_rfl) (fun _ _ _ h => h) (Or.inl ⟨by rfl, ?_⟩) (by assumption) ?_
          rotate_left
          · (intro wx hSw; (try dsimp only at hSw); go_simp <;> with_reducible rfl)
          try simp only [Act.put, List.setIfInBounds_toArray, List.set_cons_zero, List.set_cons_succ, List.getElem_toArray, List.getElem_cons_zero, List.getElem_cons_succ]
          refine wpAnyH_take (i := 2) (v := ?_) rfl (by kernel_rfl) (by kernel_rfl) (by kernel_rfl) (fun _ _ _ h => h) (Or.inl ⟨by rfl, ?_⟩) (by assumption) ?_
          rotate_left
          · (intro wx hSw; (try dsimp only at hSw); go_simp <;> with_reducible rfl)
          try simp only [Act.put, List.setIfInBounds_toArray, List.set_cons_zero, List.set_cons_succ, List.getElem_toArray, List.getElem_cons_zero, List.getElem_cons_succ]
          refine wpAnyH_take (i := 3) (v := ?_) rfl (by kernel_rfl) (by kernel_rfl) (by kernel_rfl) (fun _ _ _ h => h) (Or.inl ⟨by rfl, ?_⟩) (by assumption) ?_
          rotate_left
          · (intro wx hSw; (try dsimp only at hSw); go_simp <;> with_reducible rfl)
          try simp only [Act.put, List.setIfInBounds_toArray, List.set_cons_zero, List.set_cons_succ, List.getElem_toArray, List.getElem_cons_zero, List.getElem_cons_succ]
          refine wpAnyH_take (i := 4) (v := ?_) rfl (by kernel_rfl) (by kernel_rfl) (by kernel_rfl) (fun _ _ _ h => h) (Or.inl ⟨by rfl, ?_⟩) (by assumption) ?_
          rotate_left
          · (intro wx hSw; (try dsimp only at hSw); go_simp <;> with_reducible rfl)
          try simp only [Act.put, List.setIfInBounds_toArray, List.set_cons_zero, List.set_cons_succ, List.getElem_toArray, List.getElem_cons_zero, List.getElem_cons_succ]
          refine wpAnyH_take (i := 5) (v := ?_) rfl (by kernel_rfl) (by kernel_rfl) (by kernel_rfl) (fun _ _ _ h => h) (Or.inl ⟨by rfl, ?_⟩) (by assumption) ?_
          rotate_left
          · (intro wx hSw; (try dsimp only at hSw); go_simp <;> with_reducible rfl)
          try simp only [Act.put, List.setIfInBounds_toArray, List.set_cons_zero, List.set_cons_succ, List.getElem_toArray, List.getElem_cons_zero, List.getElem_cons_succ]
          refine wpAnyH_take (i := 6) (v := ?_) rfl (by kernel_rfl) (by kernel_rfl) (by kernel_rfl) (fun _ _ _ h => h) (Or.inl ⟨by rfl, ?_⟩) (by assumption) ?_
          rotate_left
          · (intro wx hSw; (try dsimp only at hSw); go_simp <;> with_reducible rfl)
          try simp only [Act.put, List.setIfInBounds_toArray, List.set_cons_zero, List.set_cons_succ, List.getElem_toArray, List.getElem_cons_zero, List.getElem_cons_succ]
          refine wpAnyH_take (i := 8) (v := ?_) rfl (by kernel_rfl) (by kernel_rfl) (by kernel_rfl) (fun _ _ _ h => h) (Or.inl ⟨by rfl, ?_⟩) (by assumption) ?_
          rotate_left
          · (intro wx hSw; (try dsimp only at hSw); go_simp <;> with_reducible rfl)
          try simp only [Act.put, List.setIfInBounds_toArray, List.set_cons_zero, List.set_cons_succ, List.getElem_toArray, List.getElem_cons_zero, List.getElem_cons_succ]
          refine wpAnyH_ready (rs := [7]) (by kernel_rfl) (by simp) ?_
          refine AllReadyH.cons rfl (fun K hK => ?_) AllReadyH.nil
          go_simp
          go_at_call 17
          (with_reducible refine (HOf.out _ HD0.out).mono ?_)
          rintro r v1 ⟨a1, k1, rfl, hr1, hb⟩
          have B1 : Hid (Below V0.heap.size V0 v1) := HD0.out.trans (hb.mono HD0.out.size)
          have R1 := Lib.hid hr1
          clear hr1
          clear hb
          go_wp2_with fail
          refine hK.out _ _ (HSx.out _ B1.out) (fun hHeld1 => ?_)
          clear hK K hHeld0
          try simp only [Act.put, List.setIfInBounds_toArray, List.set_cons_zero, List.set_cons_succ, List.getElem_toArray, List.getElem_cons_zero, List.getElem_cons_succ]
          refine wpAnyH_ready (rs := [9]) (by kernel_rfl) (by simp) ?_
          refine AllReadyH.cons rfl (fun K hK => ?_) AllReadyH.nil
          go_simp
          go_at_call 16
          (with_reducible refine (HS1.out _ _ _ B1.out R1.out).mono ?_)
          rintro r v2 ⟨rfl, hb⟩
          have B2 : Hid (Below V0.heap.size V0 v2) := B1.out.trans (hb.mono B1.out.size)
          clear hb
          go_wp2_with fail
          refine hK.out _ _ (HSx.out _ B2.out) (fun hHeld2 => ?_)
          clear hK K hHeld1
          try simp only [Act.put, List.setIfInBounds_toArray, List.set_cons_zero, List.set_cons_succ, List.getElem_toArray, List.getElem_cons_zero, List.getElem_cons_succ]
          refine wpAnyH_take (i := 10) (v := ?_) rfl (by kernel_rfl) (by kernel_rfl) (by kernel_rfl) (fun _ _ _ h => h) (Or.inl ⟨by rfl, ?_⟩) (by assumption) ?_
          rotate_left
          · (intro wx hSw; (try dsimp only at hSw); go_simp <;> with_reducible rfl)
          try simp only [Act.put, List.setIfInBounds_toArray, List.set_cons_zero, List.set_cons_succ, List.getElem_toArray, List.getElem_cons_zero, List.getElem_cons_succ]
          refine wpAnyH_take (i := 11) (v := ?_) rfl (by kernel_rfl) (by kernel_rfl) (by kernel_rfl) (fun _ _ _ h => h) (Or.inl ⟨by rfl, ?_⟩) (by assumption) ?_
          rotate_left
          · (intro wx hSw; (try dsimp only at hSw); go_simp <;> with_reducible rfl)
          try simp only [Act.put, List.setIfInBounds_toArray, List.set_cons_zero, List.set_cons_succ, List.getElem_toArray, List.getElem_cons_zero, List.getElem_cons_succ]
          refine wpAnyH_take (i := 12) (v := ?_) rfl (by kernel_rfl) (by kernel_rfl) (by kernel_rfl) (fun _ _ _ h => h) (Or.inl ⟨by rfl, ?_⟩) (by assumption) ?_
          rotate_left
          · (intro wx hSw; (try dsimp only at hSw); go_simp <;> with_reducible rfl)
          try simp only [Act.put, List.setIfInBounds_toArray, List.set_cons_zero, List.set_cons_succ, List.getElem_toArray, List.getElem_cons_zero, List.getElem_cons_succ]
          refine wpAnyH_done (by kernel_rfl) ?_ _
          go_wp2
          refine bodyPost_ret (v := .bool true) (by simp [results, Tryd.results3, go_sem]) rfl ?_
          exact ⟨rfl, HW0.out _ (B9.out.trans (B2.out.mono B9.out.size))⟩
        · have hee : ((ee : Int) != 0) = true := bne_iff_ne.2 (by omega)
          clear h0 HCt HS3
          go_wp2_with fail
          refine (HDa.out _).mono ?_
          rintro r w8 h8
          obtain ⟨za, zk, rfl, hr8, hbb⟩ := h8.s
          clear h8 hr8
          have B8 : Hid (Below W0.heap.size W0 w8) := HB7.out.trans (hbb.mono HB7.out.size)
          clear hbb HB7
          have HA8 : Hid (∀ o, Below W0.heap.size W0 (w8.alloc o).drew) := fun o => (B8.out.alloc B8.out.size o).drew
          go_upto_region 17 with fail
          refine wp_region_held_drew (S := (fun _ => True)) (by kernel_rfl) (trivial) (fun hHeld0 => ?_)
          refine wpAnyH_take (i := 0) (v := ?_) rfl (by kernel_rfl) (by kernel_rfl) (by kernel_rfl) (fun _ _ _ h => h) (Or.inl ⟨by rfl, ?_⟩) (by assumption) ?_
          rotate_left
          · (intro wx hSw; (try dsimp only at hSw); go_simp <;> with_reducible rfl)
          try simp only [Act.put, List.setIfInBounds_toArray, List.set_cons_zero, List.set_cons_succ, List.getElem_toArray, List.getElem_cons_zero, List.getElem_cons_succ]
          refine wpAnyH_take (i := 1) (v := ?_) rfl (by kernel_rfl) (by kernel_rfl) (by kernel_rfl) (fun _ _ _ h => h) (Or.inl ⟨by rfl, ?_⟩) (by assumption) ?_
          rotate_left
          · (intro wx hSw; (try dsimp only at hSw); go_simp <;> with_reducible rfl)
          try simp only [Act.put, List.setIfInBounds_toArray, List.set_cons_zero, List.set_cons_succ, List.getElem_toArray, List.getElem_cons_zero, List.getElem_cons_succ]
          refine wpAnyH_take (i := 2) (v := ?_) rfl (by kernel_rfl) (by kernel_rfl) (by kernel_rfl) (fun _ _ _ h => h) (Or.inl ⟨by rfl, ?_⟩) (by assumption) ?_
          rotate_left
          · (intro wx hSw; (try dsimp only at hSw); go_simp <;> with_reducible rfl)
          try simp only [Act.put, List.setIfInBounds_toArray, List.set_cons_zero, List.set_cons_succ, List.getElem_toArray, List.getElem_cons_zero, List.getElem_cons_succ]
          refine wpAnyH_take (i := 3) (v := undef) rfl (by kernel_rfl) (by kernel_rfl) (by kernel_rfl) (fun _ _ _ h => h) (Or.inr ⟨by simp [Region.wanted, yielded, undef], rfl⟩) (by assumption) ?_
          try simp only [Act.put, List.setIfInBounds_toArray, List.set_cons_zero, List.set_cons_succ, List.getElem_toArray, List.getElem_cons_zero, List.getElem_cons_succ]
          refine wpAnyH_take (i := 4) (v := undef) rfl (by kernel_rfl) (by kernel_rfl) (by kernel_rfl) (fun _ _ _ h => h) (Or.inr ⟨by simp [Region.wanted, yielded, undef], rfl⟩) (by assumption) ?_
          try simp only [Act.put, List.setIfInBounds_toArray, List.set_cons_zero, List.set_cons_succ, List.getElem_toArray, List.getElem_cons_zero, List.getElem_cons_succ]
          refine wpAnyH_take (i := 5) (v := undef) rfl (by kernel_rfl) (by kernel_rfl) (by kernel_rfl) (fun _ _ _ h => h) (Or.inr ⟨by simp [Region.wanted, yielded, undef], rfl⟩) (by assumption) ?_
          try simp only [Act.put, List.setIfInBounds_toArray, List.set_cons_zero, List.set_cons_succ, List.getElem_toArray, List.getElem_cons_zero, List.getElem_cons_succ]
          refine wpAnyH_take (i := 6) (v := undef) rfl (by kernel_rfl) (by kernel_rfl) (by kernel_rfl) (fun _ _ _ h => h) (Or.inr ⟨by simp [Region.wanted, yielded, undef], rfl⟩) (by assumption) ?_
          try simp only [Act.put, List.setIfInBounds_toArray, List.set_cons_zero, List.set_cons_succ, List.getElem_toArray, List.getElem_cons_zero, List.getElem_cons_succ]
          refine wpAnyH_take (i := 7) (v := undef) rfl (by kernel_rfl) (by kernel_rfl) (by kernel_rfl) (fun _ _ _ h => h) (Or.inr ⟨by simp [Region.wanted, yielded, undef], rfl⟩) (by assumption) ?_
          try simp only [Act.put, List.setIfInBounds_toArray, List.set_cons_zero, List.set_cons_succ, List.getElem_toArray, List.getElem_cons_zero, List.getElem_cons_succ]
          refine wpAnyH_take (i := 8) (v := undef) rfl (by kernel_rfl) (by kernel_rfl) (by kernel_rfl) (fun _ _ _ h => h) (Or.inr ⟨by simp [Region.wanted, yielded, undef], rfl⟩) (by assumption) ?_
          try simp only [Act.put, List.setIfInBounds_toArray, List.set_cons_zero, List.set_cons_succ, List.getElem_toArray, List.getElem_cons_zero, List.getElem_cons_succ]
          refine wpAnyH_take (i := 9) (v := undef) rfl (by kernel_rfl) (by kernel_rfl) (by kernel_rfl) (fun _ _ _ h => h) (Or.inr ⟨by simp [Region.wanted, yielded, undef], rfl⟩) (by assumption) ?_
          try simp only [Act.put, List.setIfInBounds_toArray, List.set_cons_zero, List.set_cons_succ, List.getElem_toArray, List.getElem_cons_zero, List.getElem_cons_succ]
          refine wpAnyH_take (i := 10) (v := undef) rfl (by kernel_rfl) (by kernel_rfl) (by kernel_rfl) (fun _ _ _ h => h) (Or.inr ⟨by simp [Region.wanted, yielded, undef], rfl⟩) (by assumption) ?_
          try simp only [Act.put, List.setIfInBounds_toArray, List.set_cons_zero, List.set_cons_succ, List.getElem_toArray, List.getElem_cons_zero, List.getElem_cons_succ]
          refine wpAnyH_take (i := 11) (v := ?_) rfl (by kernel_rfl) (by kernel_rfl) (by kernel_rfl) (fun _ _ _ h => h) (Or.inl ⟨by rfl, ?_⟩) (by assumption) ?_
          rotate_left
          · (intro wx hSw; (try dsimp only at hSw); go_simp <;> with_reducible rfl)
          try simp only [Act.put, List.setIfInBounds_toArray, List.set_cons_zero, List.set_cons_succ, List.getElem_toArray, List.getElem_cons_zero, List.getElem_cons_succ]
          refine wpAnyH_take (i := 12) (v := ?_) rfl (by kernel_rfl) (by kernel_rfl) (by kernel_rfl) (fun _ _ _ h => h) (Or.inl ⟨by rfl, ?_⟩) (by assumption) ?_
          rotate_left
          · (intro wx hSw; (try dsimp only at hSw); go_simp <;> with_reducible rfl)
          try simp only [Act.put, List.setIfInBounds_toArray, List.set_cons_zero, List.set_cons_succ, List.getElem_toArray, List.getElem_cons_zero, List.getElem_cons_succ]
          refine wpAnyH_done (by kernel_rfl) ?_ _
          go_wp2
          refine bodyPost_ret (v := .bool true) (by simp [results, Tryd.results3, go_sem]) rfl ?_
          exact ⟨rfl, HW0.out _ (HA8.out _)⟩
end Go.Proofs.YtfobmfenjdiimaaDoor
