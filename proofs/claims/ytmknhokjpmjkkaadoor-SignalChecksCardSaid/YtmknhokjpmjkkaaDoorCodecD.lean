/- Contract of codec.parseNatural. -/
import Derived.Test.YtmknhokjpmjkkaaDoorCodecC
import Derived.BigQuiet
namespace Go.Proofs.YtmknhokjpmjkkaaDoor
open Go.RowKit

/-- A slice of bytes, its address written out. -/
def BSl (w : World) (g off n : Nat) (bs : List UInt8) : Prop := n = bs.length ∧ ∀ j, j < n → w.cell? ⟨g, off + j, none⟩ = some (.int .u8 (bs.getD j 0).toNat)

set_option maxRecDepth 100000 in
set_option maxHeartbeats 1000000 in
theorem parseNatural_any (g off n c most : Nat) (bs : List UInt8) (w : World) (hm : most ≤ 10) (hlen : bs.length ≤ 70368744177664) (hb : BSl w g off n bs) :
    Calls Tryd.prog 154 #[.slice (some ⟨g, off, none⟩) n c, .int .i64 most] w fun r w' =>
      r = .returned (.tuple #[.int .u64 (parseNat most bs).1, .int .i64 (parseNat most bs).2.1, .int .i64 (parseNat most bs).2.2]) ∧ w = w' := by
  obtain ⟨hn, hc⟩ := hb
  have hn2 : n ≤ 70368744177664 := by omega
  have Hn := Lib.hid hn; clear hn
  have Hlen := Lib.hid hlen; clear hlen
  have Hc := Lib.hid hc; clear hc
  go_enter Tryd.func154, Tryd.ntmps154
  go_wp2
  go_loop [7] (fun i => ∃ k : Nat, i = .int .i64 k ∧ k ≤ n ∧ k ≤ most ∧ Hid (∀ j, j < k → 128 ≤ (bs.getD j 0).toNat)) (fun i => n - (intOf i).toNat)
  case atStart => exact ⟨0, rfl, Nat.zero_le _, Nat.zero_le _, fun j hj => by omega⟩
  case round =>
    obtain ⟨k, rfl, hkn, hkm, Hlo⟩ := hrel
    have hcell : k < n → w.cell? ⟨g, off + k, none⟩ = some (.int .u8 (bs.getD k 0).toNat) := fun h => Hc.out k h
    by_cases h1 : k = most
    · have hfin : Hid (parseNat most bs = (0, 0, 3)) := by
        show _ = _
        unfold parseNat
        rw [scan7_eq most k bs hkm (by have := Hn.out; omega) Hlo.out (.inl h1)]
        simp [h1]
      have h1' : ((k : Int) == (most : Int)) = true := beq_iff_eq.2 (by omega)
      have h1'' : ¬ k < most := by omega
      clear h1
      by_cases h2 : k < n
      all_goals
        clear hcell
        go_wp2
        go_ret3
        rw [hfin.out]
        exact ⟨rfl, rfl⟩
    · by_cases h2 : k = n
      · have hfin : Hid (parseNat most bs = (0, 0, 28)) := by
          show _ = _
          unfold parseNat
          rw [scan7_eq most k bs hkm (by have := Hn.out; omega) Hlo.out (.inr (.inl (by have := Hn.out; omega)))]
          have := Hn.out
          simp only
          rw [if_neg h1, if_pos (by omega)]
        have h1' : ((k : Int) == (most : Int)) = false := beq_eq_false_iff_ne.2 (by omega)
        have h2' : ((k : Int) == (n : Int)) = true := beq_iff_eq.2 (by omega)
        have h2'' : ¬ k < n := by omega
        clear h1 h2 hcell
        go_wp2
        go_ret3
        rw [hfin.out]
        exact ⟨rfl, rfl⟩
      · have h3 : k < n := by omega
        have h4 : k < most := by omega
        have hce := hcell h3
        clear hcell
        have hx256 : (bs.getD k 0).toNat < 256 := UInt8.toNat_lt _
        have Hb256 : Hid (∀ j, (bs.getD j 0).toNat < 256) := fun j => UInt8.toNat_lt _
        generalize hx : (bs.getD k 0).toNat = x at *
        have Hx := Lib.hid hx; clear hx
        have h1' : ((k : Int) == (most : Int)) = false := beq_eq_false_iff_ne.2 (by omega)
        have h2' : ((k : Int) == (n : Int)) = false := beq_eq_false_iff_ne.2 (by omega)
        clear h1 h2
        by_cases h5 : 128 ≤ x
        · go_wp2
          go_round
          case rel =>
            refine ⟨k + 1, by go_num, by omega, by omega, fun j hj => ?_⟩
            by_cases hjk : j = k
            · subst hjk; rw [Hx.out]; exact h5
            · exact Hlo.out j (by omega)
          case measure => simp [intOf]; omega
        · have hsc : Hid (scan7 most bs = k) := scan7_eq most k bs hkm (by have := Hn.out; omega) Hlo.out (by have := Hx.out; omega)
          by_cases h6 : 0 < k ∧ x = 0
          · have hfin : Hid (parseNat most bs = (0, 0, 3)) := by
              show _ = _
              unfold parseNat
              have := Hn.out
              simp only [hsc.out]
              rw [if_neg (by omega), if_neg (by omega), if_pos (by rw [Hx.out]; exact h6)]
            obtain ⟨ha, rfl⟩ := h6
            go_wp2
            go_ret3
            rw [hfin.out]
            exact ⟨rfl, rfl⟩
          · by_cases h7 : k = 9 ∧ 1 < x
            · have hfin : Hid (parseNat most bs = (0, 0, 3)) := by
                show _ = _
                unfold parseNat
                have := Hn.out
                simp only [hsc.out]
                rw [if_neg (by omega), if_neg (by omega), if_neg (by rw [Hx.out]; exact h6), if_pos (by rw [Hx.out]; exact h7)]
              have ha : 0 < k := by omega
              have hb : ((x : Int) == 0) = false := beq_eq_false_iff_ne.2 (by omega)
              have hd : ((k : Int) == 9) = true := beq_iff_eq.2 (by omega)
              have he : 1 < x := by omega
              clear h6 h7
              go_wp2
              go_ret3
              rw [hfin.out]
              exact ⟨rfl, rfl⟩
            · have hk9 : k ≤ 9 := by omega
              have hfin : Hid (parseNat most bs = (natVal (bs.take (k + 1)), k + 1, 0)) := by
                show _ = _
                unfold parseNat
                have := Hn.out
                simp only [hsc.out]
                rw [if_neg (by omega), if_neg (by omega), if_neg (by rw [Hx.out]; exact h6), if_neg (by rw [Hx.out]; exact h7)]
              have hV : Hid (natVal (bs.take (k + 1)) < 18446744073709551616) := natVal_small bs k (by have := Hn.out; omega) (by have := Hx.out; omega)
              have hcases : (k ≤ 0 ∧ ((k : Int) == 9) = false) ∨ (0 < k ∧ ((x : Int) == 0) = false ∧ ((k : Int) == 9) = false) ∨ (0 < k ∧ ((x : Int) == 0) = false ∧ ((k : Int) == 9) = true ∧ x ≤ 1) := by
                by_cases hk0 : k = 0
                · exact .inl ⟨by omega, beq_eq_false_iff_ne.2 (by omega)⟩
                · by_cases hk9 : k = 9
                  · exact .inr (.inr ⟨by omega, beq_eq_false_iff_ne.2 (by omega), beq_iff_eq.2 (by omega), by omega⟩)
                  · exact .inr (.inl ⟨by omega, beq_eq_false_iff_ne.2 (by omega), beq_eq_false_iff_ne.2 (by omega)⟩)
              clear h6 h7
              rcases hcases with ⟨ha, hb⟩ | ⟨ha, hd, he⟩ | ⟨ha, hd, he, hf⟩
              all_goals
                go_wp2
                go_loop [8, 9] (fun u i => ∃ (m U : Nat), i = .int .i64 ((m : Int) - 1) ∧ m ≤ k + 1 ∧ u = .int .u64 U ∧ Hid (U = natVal ((bs.take (k + 1)).drop m))) (fun _ i => (intOf i + 1).toNat)
                case atStart => exact ⟨k + 1, 0, by go_num, Nat.le_refl _, rfl, by show _ = _; rw [List.drop_of_length_le (by simp; omega)]; rfl⟩
                case round =>
                  obtain ⟨m, U, rfl, hmk, rfl, hU⟩ := hrel
                  cases m with
                  | zero =>
                    go_wp2
                    go_ret3
                    rw [hfin.out, hU.out]
                    exact ⟨rfl, rfl⟩
                  | succ m =>
                    have hcm := Hc.out m (by omega)
                    have hy256 := Hb256.out m
                    have hstep : Hid (natVal ((bs.take (k + 1)).drop m) = (bs.getD m 0).toNat % 128 + 128 * U) := by
                      show _ = _
                      have hl : m < (bs.take (k + 1)).length := by have := Hn.out; simp; omega
                      rw [natVal_drop _ _ hl, hU.out]
                      congr 2
                      rw [List.getD_eq_getElem?_getD, List.getD_eq_getElem?_getD, List.getElem?_take, if_pos (by omega)]
                    generalize hy : (bs.getD m 0).toNat = y at *
                    have Hy := Lib.hid hy; clear hy
                    have hmi : (((m + 1 : Nat) : Int) - 1) = (m : Int) := by omega
                    rw [hmi]
                    clear hmi
                    go_wp2
                    go_round
                    case rel =>
                      refine ⟨m, y % 128 + 128 * U, rfl, by omega, ?_, hstep.out.symm⟩
                      rw [shift_or U y hy256 (by have h1 := natVal_drop_le (bs.take (k + 1)) m; have h2 := hV.out; have h3 := hstep.out; omega)]
                    case measure => simp [intOf]

end Go.Proofs.YtmknhokjpmjkkaaDoor
