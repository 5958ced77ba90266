/- law 33: set, has, check. -/
import Derived.Test.YtmknhokjpmjkkaaDoorSigC
namespace Go.Proofs.YtmknhokjpmjkkaaDoor
open Go.RowKit

set_option maxHeartbeats 400000 in
theorem lSet_any (n : Int) (w : World) : Calls Tryd.prog 80 #[.int .i64 n] w fun r w' => r = .returned (.bool (setB n)) ∧ w = w' := by
  by_cases h1 : 0 ≤ n
  · by_cases h2 : n ≤ 254
    · go_enter Tryd.func80, Tryd.ntmps80
      go_wp2
      go_ret
      exact ⟨by simp [setB, h1, h2], rfl⟩
    · have h3 : setB n = false := by simp [setB, h2]
      go_enter Tryd.func80, Tryd.ntmps80
      go_wp2
      go_ret
      exact ⟨rfl, rfl⟩
  · have h3 : setB n = false := by simp [setB, h1]
    go_enter Tryd.func80, Tryd.ntmps80
    go_wp2
    go_ret
    exact ⟨rfl, rfl⟩
theorem lSet_is (n : Int) (v : Bool) (h : setB n = v) (w : World) : Calls Tryd.prog 80 #[.int .i64 n] w fun r w' => r = .returned (.bool v) ∧ w = w' := by
  subst h; exact lSet_any n w
set_option maxHeartbeats 400000 in
theorem lHas_any (p : Int) (n : Int) (hn : 0 ≤ n ∧ n < 8) (w : World) : Calls Tryd.prog 81 #[.int .i64 p, .int .i64 n] w fun r w' => r = .returned (.bool (hasB p n)) ∧ w = w' := by
  go_enter Tryd.func81, Tryd.ntmps81
  go_wp2
  go_ret
  exact ⟨rfl, rfl⟩
theorem lHas_is (p n : Int) (v : Bool) (h : hasB p n = v) (hn : 0 ≤ n ∧ n < 8) (w : World) : Calls Tryd.prog 81 #[.int .i64 p, .int .i64 n] w fun r w' => r = .returned (.bool v) ∧ w = w' := by
  subst h; exact lHas_any p n hn w


set_option maxRecDepth 100000 in
set_option maxHeartbeats 2000000 in
theorem lCheck_any (p b i h0 h1 h2 h3 h4 h5 h6 h7 : Int) (w : World) : Calls Tryd.prog 24 #[.agg #[.int .i64 p, .int .i64 b, .int .i64 i, .int .i64 h0, .int .i64 h1, .int .i64 h2, .int .i64 h3, .int .i64 h4, .int .i64 h5, .int .i64 h6, .int .i64 h7]] w fun r w' => r = .returned (.int .i64 (checkR ⟨p, b, i, h0, h1, h2, h3, h4, h5, h6, h7⟩)) ∧ Below w.heap.size w w' := by
  have Hbx : Hid (Below w.heap.size w (w.alloc (.cells #[.int .i64 p, .int .i64 b, .int .i64 i, .int .i64 h0, .int .i64 h1, .int .i64 h2, .int .i64 h3, .int .i64 h4, .int .i64 h5, .int .i64 h6, .int .i64 h7] 42))) := (Below.refl _ _).alloc (Nat.le_refl _) _
  have hW : (w.alloc (.cells #[.int .i64 p, .int .i64 b, .int .i64 i, .int .i64 h0, .int .i64 h1, .int .i64 h2, .int .i64 h3, .int .i64 h4, .int .i64 h5, .int .i64 h6, .int .i64 h7] 42)).heap[w.heap.size]? = some (.cells (rCells ⟨p, b, i, h0, h1, h2, h3, h4, h5, h6, h7⟩) 42 (0, 0)) := World.alloc_heap_new w _
  go_enter Tryd.func24, Tryd.ntmps24
  go_wp2_with fail
  generalize w.alloc (.cells #[.int .i64 p, .int .i64 b, .int .i64 i, .int .i64 h0, .int .i64 h1, .int .i64 h2, .int .i64 h3, .int .i64 h4, .int .i64 h5, .int .i64 h6, .int .i64 h7] 42) = W at *
  obtain ⟨c0, c1, c2, c3, c4, c5, c6, c7, c8, c9, c10⟩ := at11 hW
  dsimp only at c0 c1 c2 c3 c4 c5 c6 c7 c8 c9 c10
  clear c4 c5 c7 c8 c9 c10
  have Hat : Hid (∀ k, k < 8 → W.cell? ⟨w.heap.size, 3 + k, none⟩ = some (.int .i64 ((RecT.mk p b i h0 h1 h2 h3 h4 h5 h6 h7).hs.getD k 0))) := fun k hk => (cell_of_heap hW (3 + k)).trans (rCells_at _ k hk)
  clear hW
  cases ha : setB p with
  | false =>
    have he : Hid (checkR ⟨p, b, i, h0, h1, h2, h3, h4, h5, h6, h7⟩ = 2) := if_pos (.inl ha)
    refine (lSet_is p _ ha _).mono ?_
    rintro r w1 ⟨rfl, rfl⟩
    go_wp2
    go_ret
    rw [he.out]
    exact ⟨rfl, Hbx.out⟩
  | true =>
  refine (lSet_is p _ ha _).mono ?_
  rintro r w1 ⟨rfl, rfl⟩
  cases hb : setB b with
  | false =>
    have he : Hid (checkR ⟨p, b, i, h0, h1, h2, h3, h4, h5, h6, h7⟩ = 2) := if_pos (.inr (.inl hb))
    go_wp2_with fail
    refine (lSet_is b _ hb _).mono ?_
    rintro r w1 ⟨rfl, rfl⟩
    go_wp2
    go_ret
    rw [he.out]
    exact ⟨rfl, Hbx.out⟩
  | true =>
  go_wp2_with fail
  refine (lSet_is b _ hb _).mono ?_
  rintro r w1 ⟨rfl, rfl⟩
  cases hi : setB i with
  | false =>
    have he : Hid (checkR ⟨p, b, i, h0, h1, h2, h3, h4, h5, h6, h7⟩ = 2) := if_pos (.inr (.inr (.inl hi)))
    go_wp2_with fail
    refine (lSet_is i _ hi _).mono ?_
    rintro r w1 ⟨rfl, rfl⟩
    go_wp2
    go_ret
    rw [he.out]
    exact ⟨rfl, Hbx.out⟩
  | true =>
  go_wp2_with fail
  refine (lSet_is i _ hi _).mono ?_
  rintro r w1 ⟨rfl, rfl⟩
  by_cases hz : h0 = 0
  · have E1 : Hid (¬ (setB p = false ∨ setB b = false ∨ setB i = false ∨ h0 ≠ 0)) := by show ¬ _; rw [ha, hb, hi]; simp [hz]
    have hz' : (h0 != 0) = false := by simp [hz]
    have Hz := Lib.hid hz
    clear hz
    go_wp2
    generalize hhs : (RecT.mk p b i h0 h1 h2 h3 h4 h5 h6 h7).hs = hs at *
    have Hhs := Lib.hid hhs; clear hhs
    have Hz0 : Hid (hs.getD 0 0 = 0) := by show _ = _; rw [← Hhs.out]; exact Hz.out
    go_loop [3] (fun k => ∃ n : Nat, n ≤ 8 ∧ k = .int .i64 n ∧ Hid (∀ j, j < n → addrB (hs.getD j 0) = true)) (fun k => 8 - (intOf k).toNat)
    case atStart => exact ⟨0, by omega, rfl, fun j hj => by omega⟩
    case round =>
      obtain ⟨n, hn, rfl, Hd⟩ := hrel
      by_cases hlt : n < 8
      · have hix := Hat.out n hlt
        have Hlt := Lib.hid hlt
        obtain ⟨x, hx⟩ : ∃ x, hs.getD n 0 = x := ⟨_, rfl⟩
        rw [hx] at hix
        have Hx := Lib.hid hx; clear hx
        by_cases hx1 : x < 0
        · have he : Hid (checkR ⟨p, b, i, h0, h1, h2, h3, h4, h5, h6, h7⟩ = 2) := (if_neg E1.out).trans (if_pos (by rw [Hhs.out]; exact allH_false n Hlt.out (by rw [Hx.out]; simp only [addrB, Bool.and_eq_false_iff, decide_eq_false_iff_not]; omega)))
          go_wp2
          go_ret
          rw [he.out]
          exact ⟨rfl, Hbx.out⟩
        · by_cases hx2 : 4095 < x
          · have he : Hid (checkR ⟨p, b, i, h0, h1, h2, h3, h4, h5, h6, h7⟩ = 2) := (if_neg E1.out).trans (if_pos (by rw [Hhs.out]; exact allH_false n Hlt.out (by rw [Hx.out]; simp only [addrB, Bool.and_eq_false_iff, decide_eq_false_iff_not]; omega)))
            go_wp2
            go_ret
            rw [he.out]
            exact ⟨rfl, Hbx.out⟩
          · have Hax : Hid (addrB x = true) := by show _ = _; simp only [addrB, Bool.and_eq_true, decide_eq_true_eq]; omega
            go_wp2
            go_round
            case rel =>
              refine ⟨n + 1, by omega, by go_num, fun j hj => ?_⟩
              by_cases hjn : j = n
              · subst hjn; rw [Hx.out]; exact Hax.out
              · exact Hd.out j (by omega)
            case measure => simp [intOf]; omega
      · have E2 : Hid (¬ allH (fun _ x => addrB x) hs = false) := by show ¬ _; rw [allH_true (fun k hk => Hd.out k (by omega))]; simp
        clear Hd
        go_wp2_with fail
        cases hk1 : hasB b 3 with
        | true =>
          have he : Hid (checkR ⟨p, b, i, h0, h1, h2, h3, h4, h5, h6, h7⟩ = 33) := (if_neg E1.out).trans ((if_neg (by rw [Hhs.out]; exact E2.out)).trans (if_pos (.inl hk1)))
          refine (lHas_is b 3 _ hk1 (by omega) _).mono ?_
          rintro r w1 ⟨rfl, rfl⟩
          go_wp2
          go_ret
          rw [he.out]
          exact ⟨rfl, Hbx.out⟩
        | false =>
        refine (lHas_is b 3 _ hk1 (by omega) _).mono ?_
        rintro r w1 ⟨rfl, rfl⟩
        go_wp2_with fail
        cases hk2 : hasB i 3 with
        | true =>
          have he : Hid (checkR ⟨p, b, i, h0, h1, h2, h3, h4, h5, h6, h7⟩ = 33) := (if_neg E1.out).trans ((if_neg (by rw [Hhs.out]; exact E2.out)).trans (if_pos (.inr (.inl hk2))))
          refine (lHas_is i 3 _ hk2 (by omega) _).mono ?_
          rintro r w1 ⟨rfl, rfl⟩
          go_wp2
          go_ret
          rw [he.out]
          exact ⟨rfl, Hbx.out⟩
        | false =>
        refine (lHas_is i 3 _ hk2 (by omega) _).mono ?_
        rintro r w1 ⟨rfl, rfl⟩
        by_cases hk3 : h3 = 0
        · have E3 : Hid (¬ (hasB b 3 = true ∨ hasB i 3 = true ∨ h3 ≠ 0)) := by show ¬ _; rw [hk1, hk2]; simp [hk3]
          have hk3' : (h3 != 0) = false := by simp [hk3]
          clear hk3
          go_wp2
          go_loop [4] (fun k => ∃ n : Nat, 1 ≤ n ∧ n ≤ 8 ∧ k = .int .i64 n ∧ Hid (∀ j, j < n → (!clashB i j (hs.getD j 0)) = true)) (fun k => 8 - (intOf k).toNat)
          case atStart => exact ⟨1, by omega, by omega, rfl, fun j hj => by obtain rfl : j = 0 := by omega
                                                                            rw [Hz0.out]; simp [clashB]⟩
          case round =>
            obtain ⟨n, hn1, hn, rfl, Hd⟩ := hrel
            by_cases hlt : n < 8
            · have hix := Hat.out n hlt
              have Hlt := Lib.hid hlt
              obtain ⟨x, hx⟩ : ∃ x, hs.getD n 0 = x := ⟨_, rfl⟩
              rw [hx] at hix
              have Hx := Lib.hid hx; clear hx
              go_wp2_with fail
              cases hh : hasB i n with
              | false =>
                have Hc : Hid ((!clashB i n (hs.getD n 0)) = true) := by show _ = _; rw [Hx.out]; simp only [clashB, hh, Bool.and_false, Bool.not_false]
                refine (lHas_is i n _ hh (by omega) _).mono ?_
                rintro r w1 ⟨rfl, rfl⟩
                go_wp2
                go_round
                case rel =>
                  refine ⟨n + 1, by omega, by omega, by go_num, fun j hj => ?_⟩
                  by_cases hjn : j = n
                  · subst hjn; exact Hc.out
                  · exact Hd.out j (by omega)
                case measure => simp [intOf]; omega
              | true =>
                refine (lHas_is i n _ hh (by omega) _).mono ?_
                rintro r w1 ⟨rfl, rfl⟩
                by_cases hx0 : x = 0
                · have Hc : Hid ((!clashB i n (hs.getD n 0)) = true) := by show _ = _; rw [Hx.out]; simp [clashB, hx0]
                  have hx0' : (x != 0) = false := by simp [hx0]
                  clear hx0
                  go_wp2
                  go_round
                  case rel =>
                    refine ⟨n + 1, by omega, by omega, by go_num, fun j hj => ?_⟩
                    by_cases hjn : j = n
                    · subst hjn; exact Hc.out
                    · exact Hd.out j (by omega)
                  case measure => simp [intOf]; omega
                · have hx0' : (x != 0) = true := bne_iff_ne.2 hx0
                  clear hx0
                  have he : Hid (checkR ⟨p, b, i, h0, h1, h2, h3, h4, h5, h6, h7⟩ = 10) := (if_neg E1.out).trans ((if_neg (by rw [Hhs.out]; exact E2.out)).trans ((if_neg E3.out).trans (if_pos (by rw [Hhs.out]; exact allH_false n Hlt.out (by rw [Hx.out]; simp only [clashB, hx0', hh, Bool.and_self, Bool.not_true])))))
                  go_wp2
                  go_ret
                  rw [he.out]
                  exact ⟨rfl, Hbx.out⟩
            · have he : Hid (checkR ⟨p, b, i, h0, h1, h2, h3, h4, h5, h6, h7⟩ = 0) := (if_neg E1.out).trans ((if_neg (by rw [Hhs.out]; exact E2.out)).trans ((if_neg E3.out).trans (if_neg (by rw [Hhs.out, allH_true (fun k hk => Hd.out k (by omega))]; simp))))
              go_wp2
              go_ret
              rw [he.out]
              exact ⟨rfl, Hbx.out⟩
        · have he : Hid (checkR ⟨p, b, i, h0, h1, h2, h3, h4, h5, h6, h7⟩ = 33) := (if_neg E1.out).trans ((if_neg (by rw [Hhs.out]; exact E2.out)).trans (if_pos (.inr (.inr hk3))))
          have hk3' : (h3 != 0) = true := bne_iff_ne.2 hk3
          clear hk3
          go_wp2
          go_ret
          rw [he.out]
          exact ⟨rfl, Hbx.out⟩
  · have he : Hid (checkR ⟨p, b, i, h0, h1, h2, h3, h4, h5, h6, h7⟩ = 2) := if_pos (.inr (.inr (.inr hz)))
    have hz' : (h0 != 0) = true := bne_iff_ne.2 hz
    clear hz
    go_wp2
    go_ret
    rw [he.out]
    exact ⟨rfl, Hbx.out⟩

end Go.Proofs.YtmknhokjpmjkkaaDoor
