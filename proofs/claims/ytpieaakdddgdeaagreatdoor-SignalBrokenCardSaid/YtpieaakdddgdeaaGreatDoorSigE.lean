/- law 33: set, has, check. law 33: encode, decode. -/
import Derived.Test.YtpieaakdddgdeaaGreatDoorSigC
namespace Go.Proofs.YtpieaakdddgdeaaGreatDoor
open Go.RowKit

set_option maxHeartbeats 400000 in
theorem lSet_any (n : Int) (w : World) : Calls Tryz.prog 122 #[.int .i64 n] w fun r w' => r = .returned (.bool (setB n)) ∧ w = w' := by
  by_cases h1 : 0 ≤ n
  · by_cases h2 : n ≤ 254
    · go_enter Tryz.func122, Tryz.ntmps122
      go_wp2
      go_ret
      exact ⟨by simp [setB, h1, h2], rfl⟩
    · have h3 : setB n = false := by simp [setB, h2]
      go_enter Tryz.func122, Tryz.ntmps122
      go_wp2
      go_ret
      exact ⟨rfl, rfl⟩
  · have h3 : setB n = false := by simp [setB, h1]
    go_enter Tryz.func122, Tryz.ntmps122
    go_wp2
    go_ret
    exact ⟨rfl, rfl⟩
theorem lSet_is (n : Int) (v : Bool) (h : setB n = v) (w : World) : Calls Tryz.prog 122 #[.int .i64 n] w fun r w' => r = .returned (.bool v) ∧ w = w' := by
  subst h; exact lSet_any n w
set_option maxHeartbeats 400000 in
theorem lHas_any (p : Int) (n : Int) (hn : 0 ≤ n ∧ n < 8) (w : World) : Calls Tryz.prog 123 #[.int .i64 p, .int .i64 n] w fun r w' => r = .returned (.bool (hasB p n)) ∧ w = w' := by
  go_enter Tryz.func123, Tryz.ntmps123
  go_wp2
  go_ret
  exact ⟨rfl, rfl⟩
theorem lHas_is (p n : Int) (v : Bool) (h : hasB p n = v) (hn : 0 ≤ n ∧ n < 8) (w : World) : Calls Tryz.prog 123 #[.int .i64 p, .int .i64 n] w fun r w' => r = .returned (.bool v) ∧ w = w' := by
  subst h; exact lHas_any p n hn w


set_option maxRecDepth 100000 in
set_option maxHeartbeats 2000000 in
theorem lCheck_any (p b i h0 h1 h2 h3 h4 h5 h6 h7 : Int) (w : World) : Calls Tryz.prog 61 #[.agg #[.int .i64 p, .int .i64 b, .int .i64 i, .int .i64 h0, .int .i64 h1, .int .i64 h2, .int .i64 h3, .int .i64 h4, .int .i64 h5, .int .i64 h6, .int .i64 h7]] w fun r w' => r = .returned (.int .i64 (checkR ⟨p, b, i, h0, h1, h2, h3, h4, h5, h6, h7⟩)) ∧ Below w.heap.size w w' := by
  have Hbx : Hid (Below w.heap.size w (w.alloc (.cells #[.int .i64 p, .int .i64 b, .int .i64 i, .int .i64 h0, .int .i64 h1, .int .i64 h2, .int .i64 h3, .int .i64 h4, .int .i64 h5, .int .i64 h6, .int .i64 h7] 30))) := (Below.refl _ _).alloc (Nat.le_refl _) _
  have hW : (w.alloc (.cells #[.int .i64 p, .int .i64 b, .int .i64 i, .int .i64 h0, .int .i64 h1, .int .i64 h2, .int .i64 h3, .int .i64 h4, .int .i64 h5, .int .i64 h6, .int .i64 h7] 30)).heap[w.heap.size]? = some (.cells (rCells ⟨p, b, i, h0, h1, h2, h3, h4, h5, h6, h7⟩) 30 (0, 0)) := World.alloc_heap_new w _
  go_enter Tryz.func61, Tryz.ntmps61
  go_wp2_with fail
  generalize w.alloc (.cells #[.int .i64 p, .int .i64 b, .int .i64 i, .int .i64 h0, .int .i64 h1, .int .i64 h2, .int .i64 h3, .int .i64 h4, .int .i64 h5, .int .i64 h6, .int .i64 h7] 30) = W at *
  obtain ⟨c0, c1, c2, c3, c4, c5, c6, c7, c8, c9, c10⟩ := at11 hW
  dsimp only at c0 c1 c2 c3 c4 c5 c6 c7 c8 c9 c10
  clear c4 c5 c7 c8 c9 c10
  have Hat : Hid (∀ k, k < 8 → W.cell? ⟨w.heap.size, 3 + k, none⟩ = some (.int .i64 ((RecT.mk p b i h0 h1 h2 h3 h4 h5 h6 h7).hs.getD k 0))) := fun k hk => (cell_of_heap hW (3 + k)).trans (rCells_at _ k hk)
  clear hW
  cases ha : setB p with
  | false =>
    have he : Hid (checkR ⟨p, b, i, h0, h1, h2, h3, h4, h5, h6, h7⟩ = 2) := if_pos (.inl ha)
    refine (lSet_is p _ ha _).mono ?_
    rintro r w1 ⟨rfl, rfl⟩
    go_wp2
    go_ret
    rw [he.out]
    exact ⟨rfl, Hbx.out⟩
  | true =>
  refine (lSet_is p _ ha _).mono ?_
  rintro r w1 ⟨rfl, rfl⟩
  cases hb : setB b with
  | false =>
    have he : Hid (checkR ⟨p, b, i, h0, h1, h2, h3, h4, h5, h6, h7⟩ = 2) := if_pos (.inr (.inl hb))
    go_wp2_with fail
    refine (lSet_is b _ hb _).mono ?_
    rintro r w1 ⟨rfl, rfl⟩
    go_wp2
    go_ret
    rw [he.out]
    exact ⟨rfl, Hbx.out⟩
  | true =>
  go_wp2_with fail
  refine (lSet_is b _ hb _).mono ?_
  rintro r w1 ⟨rfl, rfl⟩
  cases hi : setB i with
  | false =>
    have he : Hid (checkR ⟨p, b, i, h0, h1, h2, h3, h4, h5, h6, h7⟩ = 2) := if_pos (.inr (.inr (.inl hi)))
    go_wp2_with fail
    refine (lSet_is i _ hi _).mono ?_
    rintro r w1 ⟨rfl, rfl⟩
    go_wp2
    go_ret
    rw [he.out]
    exact ⟨rfl, Hbx.out⟩
  | true =>
  go_wp2_with fail
  refine (lSet_is i _ hi _).mono ?_
  rintro r w1 ⟨rfl, rfl⟩
  by_cases hz : h0 = 0
  · have E1 : Hid (¬ (setB p = false ∨ setB b = false ∨ setB i = false ∨ h0 ≠ 0)) := by show ¬ _; rw [ha, hb, hi]; simp [hz]
    have hz' : (h0 != 0) = false := by simp [hz]
    have Hz := Lib.hid hz
    clear hz
    go_wp2
    generalize hhs : (RecT.mk p b i h0 h1 h2 h3 h4 h5 h6 h7).hs = hs at *
    have Hhs := Lib.hid hhs; clear hhs
    have Hz0 : Hid (hs.getD 0 0 = 0) := by show _ = _; rw [← Hhs.out]; exact Hz.out
    go_loop [3] (fun k => ∃ n : Nat, n ≤ 8 ∧ k = .int .i64 n ∧ Hid (∀ j, j < n → addrB (hs.getD j 0) = true)) (fun k => 8 - (intOf k).toNat)
    case atStart => exact ⟨0, by omega, rfl, fun j hj => by omega⟩
    case round =>
      obtain ⟨n, hn, rfl, Hd⟩ := hrel
      by_cases hlt : n < 8
      · have hix := Hat.out n hlt
        have Hlt := Lib.hid hlt
        obtain ⟨x, hx⟩ : ∃ x, hs.getD n 0 = x := ⟨_, rfl⟩
        rw [hx] at hix
        have Hx := Lib.hid hx; clear hx
        by_cases hx1 : x < 0
        · have he : Hid (checkR ⟨p, b, i, h0, h1, h2, h3, h4, h5, h6, h7⟩ = 2) := (if_neg E1.out).trans (if_pos (by rw [Hhs.out]; exact allH_false n Hlt.out (by rw [Hx.out]; simp only [addrB, Bool.and_eq_false_iff, decide_eq_false_iff_not]; omega)))
          go_wp2
          go_ret
          rw [he.out]
          exact ⟨rfl, Hbx.out⟩
        · by_cases hx2 : 4095 < x
          · have he : Hid (checkR ⟨p, b, i, h0, h1, h2, h3, h4, h5, h6, h7⟩ = 2) := (if_neg E1.out).trans (if_pos (by rw [Hhs.out]; exact allH_false n Hlt.out (by rw [Hx.out]; simp only [addrB, Bool.and_eq_false_iff, decide_eq_false_iff_not]; omega)))
            go_wp2
            go_ret
            rw [he.out]
            exact ⟨rfl, Hbx.out⟩
          · have Hax : Hid (addrB x = true) := by show _ = _; simp only [addrB, Bool.and_eq_true, decide_eq_true_eq]; omega
            go_wp2
            go_round
            case rel =>
              refine ⟨n + 1, by omega, by go_num, fun j hj => ?_⟩
              by_cases hjn : j = n
              · subst hjn; rw [Hx.out]; exact Hax.out
              · exact Hd.out j (by omega)
            case measure => simp [intOf]; omega
      · have E2 : Hid (¬ allH (fun _ x => addrB x) hs = false) := by show ¬ _; rw [allH_true (fun k hk => Hd.out k (by omega))]; simp
        clear Hd
        go_wp2_with fail
        cases hk1 : hasB b 3 with
        | true =>
          have he : Hid (checkR ⟨p, b, i, h0, h1, h2, h3, h4, h5, h6, h7⟩ = 33) := (if_neg E1.out).trans ((if_neg (by rw [Hhs.out]; exact E2.out)).trans (if_pos (.inl hk1)))
          refine (lHas_is b 3 _ hk1 (by omega) _).mono ?_
          rintro r w1 ⟨rfl, rfl⟩
          go_wp2
          go_ret
          rw [he.out]
          exact ⟨rfl, Hbx.out⟩
        | false =>
        refine (lHas_is b 3 _ hk1 (by omega) _).mono ?_
        rintro r w1 ⟨rfl, rfl⟩
        go_wp2_with fail
        cases hk2 : hasB i 3 with
        | true =>
          have he : Hid (checkR ⟨p, b, i, h0, h1, h2, h3, h4, h5, h6, h7⟩ = 33) := (if_neg E1.out).trans ((if_neg (by rw [Hhs.out]; exact E2.out)).trans (if_pos (.inr (.inl hk2))))
          refine (lHas_is i 3 _ hk2 (by omega) _).mono ?_
          rintro r w1 ⟨rfl, rfl⟩
          go_wp2
          go_ret
          rw [he.out]
          exact ⟨rfl, Hbx.out⟩
        | false =>
        refine (lHas_is i 3 _ hk2 (by omega) _).mono ?_
        rintro r w1 ⟨rfl, rfl⟩
        by_cases hk3 : h3 = 0
        · have E3 : Hid (¬ (hasB b 3 = true ∨ hasB i 3 = true ∨ h3 ≠ 0)) := by show ¬ _; rw [hk1, hk2]; simp [hk3]
          have hk3' : (h3 != 0) = false := by simp [hk3]
          clear hk3
          go_wp2
          go_loop [4] (fun k => ∃ n : Nat, 1 ≤ n ∧ n ≤ 8 ∧ k = .int .i64 n ∧ Hid (∀ j, j < n → (!clashB i j (hs.getD j 0)) = true)) (fun k => 8 - (intOf k).toNat)
          case atStart => exact ⟨1, by omega, by omega, rfl, fun j hj => by obtain rfl : j = 0 := by omega
                                                                            rw [Hz0.out]; simp [clashB]⟩
          case round =>
            obtain ⟨n, hn1, hn, rfl, Hd⟩ := hrel
            by_cases hlt : n < 8
            · have hix := Hat.out n hlt
              have Hlt := Lib.hid hlt
              obtain ⟨x, hx⟩ : ∃ x, hs.getD n 0 = x := ⟨_, rfl⟩
              rw [hx] at hix
              have Hx := Lib.hid hx; clear hx
              go_wp2_with fail
              cases hh : hasB i n with
              | false =>
                have Hc : Hid ((!clashB i n (hs.getD n 0)) = true) := by show _ = _; rw [Hx.out]; simp only [clashB, hh, Bool.and_false, Bool.not_false]
                refine (lHas_is i n _ hh (by omega) _).mono ?_
                rintro r w1 ⟨rfl, rfl⟩
                go_wp2
                go_round
                case rel =>
                  refine ⟨n + 1, by omega, by omega, by go_num, fun j hj => ?_⟩
                  by_cases hjn : j = n
                  · subst hjn; exact Hc.out
                  · exact Hd.out j (by omega)
                case measure => simp [intOf]; omega
              | true =>
                refine (lHas_is i n _ hh (by omega) _).mono ?_
                rintro r w1 ⟨rfl, rfl⟩
                by_cases hx0 : x = 0
                · have Hc : Hid ((!clashB i n (hs.getD n 0)) = true) := by show _ = _; rw [Hx.out]; simp [clashB, hx0]
                  have hx0' : (x != 0) = false := by simp [hx0]
                  clear hx0
                  go_wp2
                  go_round
                  case rel =>
                    refine ⟨n + 1, by omega, by omega, by go_num, fun j hj => ?_⟩
                    by_cases hjn : j = n
                    · subst hjn; exact Hc.out
                    · exact Hd.out j (by omega)
                  case measure => simp [intOf]; omega
                · have hx0' : (x != 0) = true := bne_iff_ne.2 hx0
                  clear hx0
                  have he : Hid (checkR ⟨p, b, i, h0, h1, h2, h3, h4, h5, h6, h7⟩ = 10) := (if_neg E1.out).trans ((if_neg (by rw [Hhs.out]; exact E2.out)).trans ((if_neg E3.out).trans (if_pos (by rw [Hhs.out]; exact allH_false n Hlt.out (by rw [Hx.out]; simp only [clashB, hx0', hh, Bool.and_self, Bool.not_true])))))
                  go_wp2
                  go_ret
                  rw [he.out]
                  exact ⟨rfl, Hbx.out⟩
            · have he : Hid (checkR ⟨p, b, i, h0, h1, h2, h3, h4, h5, h6, h7⟩ = 0) := (if_neg E1.out).trans ((if_neg (by rw [Hhs.out]; exact E2.out)).trans ((if_neg E3.out).trans (if_neg (by rw [Hhs.out, allH_true (fun k hk => Hd.out k (by omega))]; simp))))
              go_wp2
              go_ret
              rw [he.out]
              exact ⟨rfl, Hbx.out⟩
        · have he : Hid (checkR ⟨p, b, i, h0, h1, h2, h3, h4, h5, h6, h7⟩ = 33) := (if_neg E1.out).trans ((if_neg (by rw [Hhs.out]; exact E2.out)).trans (if_pos (.inr (.inr hk3))))
          have hk3' : (h3 != 0) = true := bne_iff_ne.2 hk3
          clear hk3
          go_wp2
          go_ret
          rw [he.out]
          exact ⟨rfl, Hbx.out⟩
  · have he : Hid (checkR ⟨p, b, i, h0, h1, h2, h3, h4, h5, h6, h7⟩ = 2) := if_pos (.inr (.inr (.inr hz)))
    have hz' : (h0 != 0) = true := bne_iff_ne.2 hz
    clear hz
    go_wp2
    go_ret
    rw [he.out]
    exact ⟨rfl, Hbx.out⟩

theorem sRd_mono {S S' : Nat → Prop} {b : Nat} {w : World} {s : RdS} (h : Rd S b w s) (hS : ∀ k, S k → S' k) : Rd S' b w s := by
  obtain ⟨hBb, g, off, n, c, p, hh, hsl, hnc, hBg, hgb, hlen⟩ := h
  exact ⟨hS _ hBb, g, off, n, c, p, hh, hsl, hnc, hS _ hBg, hgb, hlen⟩

end Go.Proofs.YtpieaakdddgdeaaGreatDoor

namespace Go.Proofs.YtpieaakdddgdeaaGreatDoor
open Go.RowKit
attribute [local go_sem ↓] Go.wp_at_zero Go.wp_at_succ

set_option maxRecDepth 100000 in
set_option maxHeartbeats 4000000 in
theorem lDecodeR_any (s : ByteArray) (w : World) (hs2 : s.size ≤ 35184372088832) : Calls Tryz.prog 20 #[.string s] w (RecPost w (decR s)) := by
  have hconv := Lib.run_convert_string_bytes (P := Tryz.prog) (w.alloc zObj) 9 117 5 s Tryz.underlying9 Tryz.underlying117 Tryz.underlying5
  have hR : (w.alloc zObj).heap[w.heap.size]? = some (.cells (rCells zeroR) 30 (0, 0)) := World.alloc_heap_new w _
  have hbw := sBytes_below (w.alloc zObj) 5 s
  have hsrc := rec_src w s zObj
  rw [World.size_alloc] at hconv
  have hRb := (hbw.block w.heap.size (by simp)).trans hR
  have Hwb : Hid (Below w.heap.size w (Lib.bytesWorld (w.alloc zObj) 5 s)) := ((Below.refl _ _).alloc (Nat.le_refl _) _).trans (hbw.mono (by simp))
  have hwsz : w.heap.size < (Lib.bytesWorld (w.alloc zObj) 5 s).heap.size := by rw [Lib.bytesWorld_size]; simp; omega
  have Hsrc := Lib.hid hsrc; clear hsrc hbw hR
  have HRb := Lib.hid hRb; clear hRb
  have Hlen : Hid (s.data.toList.length ≤ 35184372088832) := by show _ ≤ _; rw [size_toList]; exact hs2
  clear hs2
  unfold zObj at *
  go_enter Tryz.func20, Tryz.ntmps20
  go_wp2_with fail
  generalize Lib.bytesWorld (w.alloc (.cells #[.int .i64 0, .int .i64 0, .int .i64 0, .int .i64 0, .int .i64 0, .int .i64 0, .int .i64 0, .int .i64 0, .int .i64 0, .int .i64 0, .int .i64 0] 30)) 5 s = wb at *
  refine (newReader_any _ s.data.toList _ Hlen.out Hsrc.out (by simp)).mono ?_
  rintro e w1 ⟨b, rfl, hrd, hb1⟩
  clear hconv Hsrc
  generalize hbs : s.data.toList = bs at *
  have Hbs := Lib.hid hbs; clear hbs
  have Hrd := Lib.hid hrd; clear hrd
  have HB1 := Lib.hid hb1; clear hb1
  go_wp2_with fail
  refine (rNumber_any _ b 254 _ _ Hrd.out).mono ?_
  rintro e w2 ⟨rfl, hr, hg⟩
  have Zw2 : Hid (w1.heap.size ≤ w2.heap.size) := hg.size
  have HB2 : Hid (Below wb.heap.size wb w2) := sBelow_row HB1.out hg (Nat.le_refl _) (fun k hk => by cases hk; exact hr.1.1)
  have Hrd2 := Lib.hid hr; clear hr hg Hrd
  have e1 : rdNum 254 ⟨bs, 0⟩ = sr1 bs := rfl
  rw [e1] at Hrd2
  rw [e1]
  clear e1
  go_wp2_with fail
  refine (rNumber_any _ b 254 _ _ Hrd2.out).mono ?_
  rintro e w3 ⟨rfl, hr, hg⟩
  have Zw3 : Hid (w2.heap.size ≤ w3.heap.size) := hg.size
  have HB3 : Hid (Below wb.heap.size wb w3) := sBelow_row HB2.out hg (Nat.le_refl _) (fun k hk => by cases hk; exact hr.1.1)
  have Hrd3 := Lib.hid hr; clear hr hg Hrd2
  have e1 : rdNum 254 (sr1 bs).2 = sr2 bs := rfl
  rw [e1] at Hrd3
  rw [e1]
  clear e1
  go_wp2_with fail
  refine (rNumber_any _ b 254 _ _ Hrd3.out).mono ?_
  rintro e w4 ⟨rfl, hr, hg⟩
  have Zw4 : Hid (w3.heap.size ≤ w4.heap.size) := hg.size
  have HB4 : Hid (Below wb.heap.size wb w4) := sBelow_row HB3.out hg (Nat.le_refl _) (fun k hk => by cases hk; exact hr.1.1)
  have Hrd4 := Lib.hid hr; clear hr hg Hrd3
  have e1 : rdNum 254 (sr2 bs).2 = sr3 bs := rfl
  rw [e1] at Hrd4
  rw [e1]
  clear e1
  have D3' : Hid (SDec wb wb.heap.size w4.heap.size b (w4.alloc (.cells #[.int .i64 (sr1 bs).1, .int .i64 (sr2 bs).1, .int .i64 (sr3 bs).1, .int .i64 0, .int .i64 0, .int .i64 0, .int .i64 0, .int .i64 0, .int .i64 0, .int .i64 0, .int .i64 0] 30)) (recAt bs 0) (srH (sr3 bs).2 0)) :=
    ⟨heap_alloc_new w4 _, (sRd_mono Hrd4.out (fun k hk => ⟨hk.1, by have h1 := hk.2; have h2 := Zw2.out; have h3 := Zw3.out; have h4 := Zw4.out; omega⟩)).later ((Below.refl _ _).alloc (Nat.le_refl _) _), HB4.out.alloc HB4.out.size _, HB4.out.size, Nat.le_refl _⟩
  go_wp2
  clear Hrd4 HB1 HB2 HB3 HB4 Zw2 Zw3 Zw4
  generalize w4.alloc (.cells #[.int .i64 (sr1 bs).1, .int .i64 (sr2 bs).1, .int .i64 (sr3 bs).1, .int .i64 0, .int .i64 0, .int .i64 0, .int .i64 0, .int .i64 0, .int .i64 0, .int .i64 0, .int .i64 0] 30) = w5 at *
  generalize w4.heap.size = T at *
  go_loopw [6] (fun i wr => ∃ k : Nat, k ≤ 8 ∧ i = .int .i64 k ∧ Hid (SDec wb wb.heap.size T b wr (recAt bs k) (srH (sr3 bs).2 k))) (fun i _ => 8 - (intOf i).toNat)
  case atStart => exact ⟨0, by omega, rfl, D3'.out⟩
  case round =>
    obtain ⟨k, hk, rfl, HD⟩ := hrel
    clear D3'
    by_cases h4 : k < 8
    · go_wp2_with fail
      refine (rNumber_any _ b 4095 _ _ HD.out.rd).mono ?_
      rintro e w6 ⟨rfl, hr, hg⟩
      have D4 := Lib.hid (HD.out.read hr hg); clear hr hg HD
      have ck := D4.out.cell (3 + k)
      rw [rCells_at _ k h4] at ck
      generalize (recAt bs k).hs.getD k 0 = old at *
      have fk := D4.out.free (3 + k)
      have e4 : (rdNum 4095 (srH (sr3 bs).2 k)).1 = srV bs k := rfl
      rw [e4]
      clear e4
      have D5 : Hid (SDec wb wb.heap.size T b _ (recAt bs (k + 1)) (srH (sr3 bs).2 (k + 1))) := D4.out.store (3 + k) (.int .i64 (srV bs k)) (recAt bs (k + 1)) (recAt_step bs k h4)
      clear D4
      go_wp2
      go_roundw
      case rel => exact ⟨k + 1, by omega, by go_num, D5.out⟩
      case measure => simp [intOf]; omega
    · obtain rfl : k = 8 := by omega
      have D6 : Hid (SDec wb wb.heap.size T b wr (recOf bs) (srH (sr3 bs).2 8)) := HD.out
      clear HD h4 hk
      go_wp2_with fail
      refine (rClose_any _ b _ _ D6.out.rd).mono ?_
      rintro e w6 ⟨rfl, rfl⟩
      have hR6 := (D6.out.below.block w.heap.size hwsz).trans HRb.out
      have HR6 := Lib.hid hR6
      have HB6 : Hid (Below w.heap.size w wr) := Hwb.out.trans (D6.out.below.mono (Nat.le_of_lt hwsz))
      generalize hcl : rdClose (srH (sr3 bs).2 8) = q at *
      have Hcl := Lib.hid hcl; clear hcl
      by_cases hq : q = 0
      · subst hq
        generalize hcq : checkR (recOf bs) = q at *
        have Hcq := Lib.hid hcq; clear hcq
        have Hdec : Hid (decR s = if q ≠ 0 then (zeroR, q) else (recOf bs, 0)) := by show _ = _; unfold decR; rw [Hbs.out, Hcl.out, Hcq.out]; rfl
        have HT6 : Hid (wr.heap[T]? = some (.cells (rCells (recOf bs)) 30 (0, 0))) := D6.out.heap
        clear D6 hR6
        generalize recOf bs = r at *
        obtain ⟨p, b', i, h0, h1, h2, h3, h4, h5, h6, h7⟩ := r
        obtain ⟨c0, c1, c2, c3, c4, c5, c6, c7, c8, c9, c10⟩ := at11 HT6.out
        dsimp only at c0 c1 c2 c3 c4 c5 c6 c7 c8 c9 c10
        go_wp2_with fail
        refine (lCheck_any p b' i h0 h1 h2 h3 h4 h5 h6 h7 _).mono ?_
        rw [Hcq.out]
        rintro e w7 ⟨rfl, hb7⟩
        have hR7 := (hb7.block w.heap.size (lt_of_heap HR6.out)).trans HR6.out
        have hT7 := (hb7.block T (lt_of_heap HT6.out)).trans HT6.out
        have H7 : Hid (Below w.heap.size w w7) := HB6.out.trans (hb7.mono (Nat.le_of_lt (lt_of_heap HR6.out)))
        clear c0 c1 c2 c3 c4 c5 c6 c7 c8 c9 c10
        obtain ⟨c0, c1, c2, c3, c4, c5, c6, c7, c8, c9, c10⟩ := at11 hT7
        obtain ⟨r0, r1, r2, r3, r4, r5, r6, r7, r8, r9, r10⟩ := at11 hR7
        obtain ⟨g0, g1, g2, g3, g4, g5, g6, g7, g8, g9, g10⟩ := free11 hR7
        dsimp only at c0 c1 c2 c3 c4 c5 c6 c7 c8 c9 c10
        clear hR7 hT7 hb7
        by_cases hq : q = 0
        · subst hq
          have he : Hid (decR s = (⟨p, b', i, h0, h1, h2, h3, h4, h5, h6, h7⟩, 0)) := Hdec.out.trans (by simp)
          clear Hdec
          go_wp2
          refine bodyPost_ret (v := .tuple #[.agg #[.int .i64 p, .int .i64 b', .int .i64 i, .int .i64 h0, .int .i64 h1, .int .i64 h2, .int .i64 h3, .int .i64 h4, .int .i64 h5, .int .i64 h6, .int .i64 h7], .int .i64 0]) (by simp [results, Tryz.results20, go_sem, r0, r1, r2, r3, r4, r5, r6, r7, r8, r9, r10]) rfl ?_
          rw [he.out]
          exact ⟨rfl, sBelow_row H7.out (set11_grown _ _ _ _ _ _ _ _ _ _ _ _ _) (Nat.le_refl _) (fun k hk => by cases hk; exact Nat.le_refl _)⟩
        · have hq' : ((q : Int) != 0) = true := bne_iff_ne.2 (by omega)
          have he : Hid (decR s = (zeroR, q)) := Hdec.out.trans (if_pos hq)
          clear hq Hdec
          go_wp2
          refine bodyPost_ret (v := .tuple #[.agg #[.int .i64 0, .int .i64 0, .int .i64 0, .int .i64 0, .int .i64 0, .int .i64 0, .int .i64 0, .int .i64 0, .int .i64 0, .int .i64 0, .int .i64 0], .int .i64 q]) (by simp [results, Tryz.results20, go_sem, r0, r1, r2, r3, r4, r5, r6, r7, r8, r9, r10]) rfl ?_
          rw [he.out]
          exact ⟨rfl, sBelow_row H7.out (set11_grown _ _ _ _ _ _ _ _ _ _ _ _ _) (Nat.le_refl _) (fun k hk => by cases hk; exact Nat.le_refl _)⟩
      · have hq' : ((q : Int) != 0) = true := bne_iff_ne.2 (by omega)
        have he : Hid (decR s = (zeroR, q)) := by show _ = _; unfold decR; rw [Hbs.out, Hcl.out, if_pos hq]
        clear hq
        obtain ⟨r0, r1, r2, r3, r4, r5, r6, r7, r8, r9, r10⟩ := at11 hR6
        obtain ⟨g0, g1, g2, g3, g4, g5, g6, g7, g8, g9, g10⟩ := free11 hR6
        clear hR6
        go_wp2
        refine bodyPost_ret (v := .tuple #[.agg #[.int .i64 0, .int .i64 0, .int .i64 0, .int .i64 0, .int .i64 0, .int .i64 0, .int .i64 0, .int .i64 0, .int .i64 0, .int .i64 0, .int .i64 0], .int .i64 q]) (by simp [results, Tryz.results20, go_sem, r0, r1, r2, r3, r4, r5, r6, r7, r8, r9, r10]) rfl ?_
        rw [he.out]
        exact ⟨rfl, sBelow_row HB6.out (set11_grown _ _ _ _ _ _ _ _ _ _ _ _ _) (Nat.le_refl _) (fun k hk => by cases hk; exact Nat.le_refl _)⟩

end Go.Proofs.YtpieaakdddgdeaaGreatDoor
