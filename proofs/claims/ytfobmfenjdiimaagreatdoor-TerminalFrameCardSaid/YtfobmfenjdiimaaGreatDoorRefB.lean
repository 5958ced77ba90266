/- The reference of layer 1: Natural, Text. The reference of layer 1: groups, Parse; Text. -/
import Derived.Test.YtfobmfenjdiimaaGreatDoorCodecC
import Derived.Test.YtfobmfenjdiimaaGreatDoorCodecH
import Derived.Test.YtfobmfenjdiimaaGreatDoorLinB
import Derived.Deep.LoopGhost
namespace Go.Proofs.YtfobmfenjdiimaaGreatDoor
open Go.RowKit

theorem ref_high (k : Nat) : ((k : Int) % 128 + 128) = ((128 + k % 128).toUInt8.toNat : Int) := by
  simp; omega

theorem ref_div (k : Nat) (h : k < 18446744073709551616) : IntKind.u64.wrap ((k : Int) / 128) = ((k / 128 : Nat) : Int) := by
  simp [IntKind.wrap, IntKind.signed, IntKind.bits]
  omega

set_option maxRecDepth 100000 in
set_option maxHeartbeats 800000 in
theorem rfNatural_any (u : Nat) (w : World) (hu : u < 18446744073709551616) :
    Calls Tryz.prog 67 #[.int .u64 u] w (Appended w (.slice none 0 0) (natBytes u)) := by
  go_enter Tryz.func67, Tryz.ntmps67
  go_wp2
  go_loopw [0, 3] (fun x b wr => ∃ (pre : List UInt8) (k f : Nat), x = .int .u64 k ∧ k < 18446744073709551616 ∧ k < 128 ^ (f + 1) ∧ pre.length + f ≤ 9 ∧ natBytes u = pre ++ nat7 (f + 1) k ∧ BRow wr b pre ∧ w.grownBy wr none ∧ (∀ g, b.ownBlock = some g → w.heap.size ≤ g)) (fun x _ _ => (intOf x).toNat)
  case atStart => exact ⟨[], u, 9, rfl, hu, by omega, by simp, rfl, World.ownsRow_nil _ _ _ _, ⟨rfl, rfl, rfl, Nat.le_refl _, fun _ _ _ => rfl⟩, fun g hg => by simp [Value.ownBlock] at hg⟩
  case round =>
    obtain ⟨pre, k, f, rfl, hkb, hk, hf, hnb, hrow, hg, hlie⟩ := hrel
    have Hk := Lib.hid hk; clear hk
    have Hkb := Lib.hid hkb; clear hkb
    have Hnb := Lib.hid hnb; clear hnb
    have Hu := Lib.hid hu; clear hu
    have hl2 : pre.length ≤ 35184372088832 := by omega
    have Hl2 := Lib.hid hl2; clear hl2
    by_cases hlt : 128 ≤ k
    · go_wp2_with (at_builtin; refine wpList_append_byte rfl _ _ rfl _ _ rfl hrow _ _ (ref_high k) rfl Hl2.out ?_; intro g n cap w1 hrow1 hg1 hl1)
      go_roundw
      case rel =>
        obtain ⟨f', rfl, hk'⟩ := pow_low hlt Hk.out
        refine ⟨pre ++ [(128 + k % 128).toUInt8], k / 128, f', by rw [ref_div k Hkb.out], by have := Hkb.out; omega, hk', by simp; omega, by rw [Hnb.out, nat7_high _ _ hlt]; simp, hrow1, grown_step (v := .slice none 0 0) hg (fun g hg => .inr (hlie g hg)) hg1, ?_⟩
        intro g' hg'
        obtain rfl : g = g' := by simpa [Value.ownBlock] using hg'
        exact (lies_step (v := .slice none 0 0) hg.size (fun g hg => .inr (hlie g hg)) hl1).resolve_left (by simp [Value.ownBlock])
      case measure =>
        have := Hkb.out
        simp [intOf, ref_div k Hkb.out]; omega
    · go_wp2_with (at_builtin; refine wpList_append_byte rfl _ _ rfl _ _ rfl hrow _ _ (low_byte k hlt) rfl Hl2.out ?_; intro g n cap w1 hrow1 hg1 hl1)
      go_ret
      have hfin : natBytes u = pre ++ [k.toUInt8] := by rw [Hnb.out, nat7_low _ _ hlt]
      rw [hfin]
      exact ⟨g, n, cap, rfl, hrow1, grown_step (v := .slice none 0 0) hg (fun g hg => .inr (hlie g hg)) hg1, lies_step (v := .slice none 0 0) hg.size (fun g hg => .inr (hlie g hg)) hl1⟩

end Go.Proofs.YtfobmfenjdiimaaGreatDoor

namespace Go.Proofs.YtfobmfenjdiimaaGreatDoor
open Go.RowKit

theorem ref_fold (U y : Nat) (h : y % 128 + 128 * U < 18446744073709551616) : IntKind.u64.wrap (IntKind.u64.wrap (128 * (U : Int)) + (y : Int) % 128) = ((y % 128 + 128 * U : Nat) : Int) := by
  simp [IntKind.wrap, IntKind.signed, IntKind.bits]
  omega

set_option maxRecDepth 100000 in
set_option maxHeartbeats 1000000 in
theorem rfGroups_any (g off n c most : Nat) (bs : List UInt8) (w : World) (hm : most ≤ 10) (hlen : bs.length ≤ 70368744177664) (hb : BSl w g off n bs) :
    Calls Tryz.prog 100 #[.slice (some ⟨g, off, none⟩) n c, .int .i64 most] w fun r w' =>
      r = .returned (.tuple #[.int .u64 (parseNat most bs).1, .int .i64 (parseNat most bs).2.1, .int .i64 (parseNat most bs).2.2]) ∧ w = w' := by
  obtain ⟨hn, hc⟩ := hb
  have hn2 : n ≤ 70368744177664 := by omega
  have Hn := Lib.hid hn; clear hn
  have Hlen := Lib.hid hlen; clear hlen
  have Hc := Lib.hid hc; clear hc
  go_enter Tryz.func100, Tryz.ntmps100
  go_wp2
  go_loop [7] (fun i => ∃ k : Nat, i = .int .i64 k ∧ k ≤ n ∧ k ≤ most ∧ Hid (∀ j, j < k → 128 ≤ (bs.getD j 0).toNat)) (fun i => n - (intOf i).toNat)
  case atStart => exact ⟨0, rfl, Nat.zero_le _, Nat.zero_le _, fun j hj => by omega⟩
  case round =>
    obtain ⟨k, rfl, hkn, hkm, Hlo⟩ := hrel
    have hcell : k < n → w.cell? ⟨g, off + k, none⟩ = some (.int .u8 (bs.getD k 0).toNat) := fun h => Hc.out k h
    by_cases h1 : k = most
    · have hfin : Hid (parseNat most bs = (0, 0, 3)) := by
        show _ = _
        unfold parseNat
        rw [scan7_eq most k bs hkm (by have := Hn.out; omega) Hlo.out (.inl h1)]
        simp [h1]
      have h1' : ((k : Int) == (most : Int)) = true := beq_iff_eq.2 (by omega)
      have h1'' : ¬ k < most := by omega
      clear h1
      by_cases h2 : k < n
      all_goals
        clear hcell
        go_wp2
        go_ret3
        rw [hfin.out]
        exact ⟨rfl, rfl⟩
    · by_cases h2 : k = n
      · have hfin : Hid (parseNat most bs = (0, 0, 28)) := by
          show _ = _
          unfold parseNat
          rw [scan7_eq most k bs hkm (by have := Hn.out; omega) Hlo.out (.inr (.inl (by have := Hn.out; omega)))]
          have := Hn.out
          simp only
          rw [if_neg h1, if_pos (by omega)]
        have h1' : ((k : Int) == (most : Int)) = false := beq_eq_false_iff_ne.2 (by omega)
        have h2' : ((k : Int) == (n : Int)) = true := beq_iff_eq.2 (by omega)
        have h2'' : ¬ k < n := by omega
        clear h1 h2 hcell
        go_wp2
        go_ret3
        rw [hfin.out]
        exact ⟨rfl, rfl⟩
      · have h3 : k < n := by omega
        have h4 : k < most := by omega
        have hce := hcell h3
        clear hcell
        have hx256 : (bs.getD k 0).toNat < 256 := UInt8.toNat_lt _
        have Hb256 : Hid (∀ j, (bs.getD j 0).toNat < 256) := fun j => UInt8.toNat_lt _
        generalize hx : (bs.getD k 0).toNat = x at *
        have Hx := Lib.hid hx; clear hx
        have h1' : ((k : Int) == (most : Int)) = false := beq_eq_false_iff_ne.2 (by omega)
        have h2' : ((k : Int) == (n : Int)) = false := beq_eq_false_iff_ne.2 (by omega)
        clear h1 h2
        by_cases h5 : 128 ≤ x
        · go_wp2
          go_round
          case rel =>
            refine ⟨k + 1, by go_num, by omega, by omega, fun j hj => ?_⟩
            by_cases hjk : j = k
            · subst hjk; rw [Hx.out]; exact h5
            · exact Hlo.out j (by omega)
          case measure => simp [intOf]; omega
        · have hsc : Hid (scan7 most bs = k) := scan7_eq most k bs hkm (by have := Hn.out; omega) Hlo.out (by have := Hx.out; omega)
          by_cases h6 : 0 < k ∧ x = 0
          · have hfin : Hid (parseNat most bs = (0, 0, 3)) := by
              show _ = _
              unfold parseNat
              have := Hn.out
              simp only [hsc.out]
              rw [if_neg (by omega), if_neg (by omega), if_pos (by rw [Hx.out]; exact h6)]
            obtain ⟨ha, rfl⟩ := h6
            go_wp2
            go_ret3
            rw [hfin.out]
            exact ⟨rfl, rfl⟩
          · by_cases h7 : k = 9 ∧ 1 < x
            · have hfin : Hid (parseNat most bs = (0, 0, 3)) := by
                show _ = _
                unfold parseNat
                have := Hn.out
                simp only [hsc.out]
                rw [if_neg (by omega), if_neg (by omega), if_neg (by rw [Hx.out]; exact h6), if_pos (by rw [Hx.out]; exact h7)]
              have ha : 0 < k := by omega
              have hb : ((x : Int) == 0) = false := beq_eq_false_iff_ne.2 (by omega)
              have hd : ((k : Int) == 9) = true := beq_iff_eq.2 (by omega)
              have he : 1 < x := by omega
              clear h6 h7
              go_wp2
              go_ret3
              rw [hfin.out]
              exact ⟨rfl, rfl⟩
            · have hk9 : k ≤ 9 := by omega
              have hfin : Hid (parseNat most bs = (natVal (bs.take (k + 1)), k + 1, 0)) := by
                show _ = _
                unfold parseNat
                have := Hn.out
                simp only [hsc.out]
                rw [if_neg (by omega), if_neg (by omega), if_neg (by rw [Hx.out]; exact h6), if_neg (by rw [Hx.out]; exact h7)]
              have hV : Hid (natVal (bs.take (k + 1)) < 18446744073709551616) := natVal_small bs k (by have := Hn.out; omega) (by have := Hx.out; omega)
              have hcases : (k ≤ 0 ∧ ((k : Int) == 9) = false) ∨ (0 < k ∧ ((x : Int) == 0) = false ∧ ((k : Int) == 9) = false) ∨ (0 < k ∧ ((x : Int) == 0) = false ∧ ((k : Int) == 9) = true ∧ x ≤ 1) := by
                by_cases hk0 : k = 0
                · exact .inl ⟨by omega, beq_eq_false_iff_ne.2 (by omega)⟩
                · by_cases hk9 : k = 9
                  · exact .inr (.inr ⟨by omega, beq_eq_false_iff_ne.2 (by omega), beq_iff_eq.2 (by omega), by omega⟩)
                  · exact .inr (.inl ⟨by omega, beq_eq_false_iff_ne.2 (by omega), beq_eq_false_iff_ne.2 (by omega)⟩)
              clear h6 h7
              rcases hcases with ⟨ha, hb⟩ | ⟨ha, hd, he⟩ | ⟨ha, hd, he, hf⟩
              all_goals
                go_wp2
                go_loop [8, 9] (fun u i => ∃ (m U : Nat), i = .int .i64 ((m : Int) - 1) ∧ m ≤ k + 1 ∧ u = .int .u64 U ∧ Hid (U = natVal ((bs.take (k + 1)).drop m))) (fun _ i => (intOf i + 1).toNat)
                case atStart => exact ⟨k + 1, 0, by go_num, Nat.le_refl _, rfl, by show _ = _; rw [List.drop_of_length_le (by simp; omega)]; rfl⟩
                case round =>
                  obtain ⟨m, U, rfl, hmk, rfl, hU⟩ := hrel
                  cases m with
                  | zero =>
                    go_wp2
                    go_ret3
                    rw [hfin.out, hU.out]
                    exact ⟨rfl, rfl⟩
                  | succ m =>
                    have hcm := Hc.out m (by omega)
                    have hy256 := Hb256.out m
                    have hstep : Hid (natVal ((bs.take (k + 1)).drop m) = (bs.getD m 0).toNat % 128 + 128 * U) := by
                      show _ = _
                      have hl : m < (bs.take (k + 1)).length := by have := Hn.out; simp; omega
                      rw [natVal_drop _ _ hl, hU.out]
                      congr 2
                      rw [List.getD_eq_getElem?_getD, List.getD_eq_getElem?_getD, List.getElem?_take, if_pos (by omega)]
                    generalize hy : (bs.getD m 0).toNat = y at *
                    have Hy := Lib.hid hy; clear hy
                    have hmi : (((m + 1 : Nat) : Int) - 1) = (m : Int) := by omega
                    rw [hmi]
                    clear hmi
                    go_wp2
                    go_round
                    case rel =>
                      refine ⟨m, y % 128 + 128 * U, rfl, by omega, ?_, hstep.out.symm⟩
                      have hbnd : y % 128 + 128 * U < 18446744073709551616 := by have h1 := natVal_drop_le (bs.take (k + 1)) m; have h2 := hV.out; have h3 := hstep.out; omega
                      rw [ref_fold U y hbnd]
                    case measure => simp [intOf]

set_option maxHeartbeats 400000 in
theorem rfParse_any (g off n c : Nat) (bs : List UInt8) (w : World) (hlen : bs.length ≤ 70368744177664) (hb : BSl w g off n bs) :
    Calls Tryz.prog 65 #[.slice (some ⟨g, off, none⟩) n c] w fun r w' =>
      r = .returned (.tuple #[.int .i64 (parseNat 9 bs).1, .int .i64 (parseNat 9 bs).2.1, .int .i64 (parseNat 9 bs).2.2]) ∧ w = w' := by
  have Hb := Lib.hid hb; clear hb
  have Hlen := Lib.hid hlen; clear hlen
  go_enter Tryz.func65, Tryz.ntmps65
  go_wp2_with fail
  refine (rfGroups_any g off n c 9 bs _ (by omega) Hlen.out Hb.out).mono ?_
  rintro e w1 ⟨rfl, rfl⟩
  have h1 := (parse9_small bs).1
  generalize hq : parseNat 9 bs = q at *
  have Hq := Lib.hid hq; clear hq
  obtain ⟨q1, q2, q3⟩ := q
  dsimp only at *
  go_wp2
  go_ret3
  rw [Hq.out]
  exact ⟨rfl, rfl⟩

set_option maxRecDepth 100000 in
set_option maxHeartbeats 800000 in
theorem rfText_any (s : ByteArray) (w : World) (hs : s.size ≤ 1099511627776) :
    Calls Tryz.prog 68 #[.string s] w (Appended w (.slice none 0 0) (natBytes s.size ++ s.data.toList)) := by
  go_enter Tryz.func68, Tryz.ntmps68
  go_wp2_with fail
  refine (rfNatural_any s.size _ (by omega)).mono ?_
  rintro e w1 ⟨g, n, cap, rfl, hrow, hg, hl⟩
  have Hrow := Lib.hid hrow; clear hrow
  have Hg := Lib.hid hg; clear hg
  have Hl := Lib.hid hl; clear hl
  have Hnl : Hid ((natBytes s.size).length ≤ 10) := natBytes_length s.size
  go_wp2_with fail
  go_loopg [3, 4] s.size (fun gk b i wr => ∃ (k : Nat) (g n cap : Nat), k + gk = s.size ∧ i = .int .i64 k ∧ b = .slice (some ⟨g, 0, none⟩) n cap ∧ Hid (BRow wr (.slice (some ⟨g, 0, none⟩) n cap) (natBytes s.size ++ s.data.toList.take k)) ∧ Hid (w.grownBy wr none) ∧ Hid (w.heap.size ≤ g))
  case atStart => exact ⟨0, g, n, cap, by omega, rfl, rfl, by have h := Hrow.out; show BRow _ _ _; simpa using h, Hg.out, Hl.out.resolve_left (by simp [Value.ownBlock])⟩
  case round =>
    obtain ⟨k, g, n, cap, hk, rfl, rfl, hrow, hgr, hlie⟩ := hrel
    clear Hrow Hg Hl
    by_cases hlt : k < s.size
    · have hl2 : (natBytes s.size ++ s.data.toList.take k).length ≤ 35184372088832 := by have := Hnl.out; simp; omega
      have Hl2 := Lib.hid hl2; clear hl2
      have hown : ∀ g', (Value.slice (some ⟨g, 0, none⟩) n cap).ownBlock = some g' → w.heap.size ≤ g' := fun g' hg' => by
        obtain rfl : g = g' := by simpa [Value.ownBlock] using hg'
        exact hlie.out
      have hnew : ∀ {w2 : World} {v2 : Value}, BRow w2 v2 (natBytes s.size ++ s.data.toList.take k ++ [s[k]]) → Hid (BRow w2 v2 (natBytes s.size ++ s.data.toList.take (k + 1))) := fun h => by
        show BRow _ _ _
        have hk' : k < s.data.toList.length := by simpa using hlt
        rw [List.take_succ_eq_append_getElem hk', ← List.append_assoc]
        exact h
      go_wp2_with (at_builtin; refine wpList_append_byte rfl _ _ rfl _ _ rfl hrow.out s[k] _ rfl rfl Hl2.out ?_; intro g1 n1 cap1 w2 hrow1 hg1 hl1)
      go_roundg (s.size - (k + 1))
      case measure => omega
      case rel => exact ⟨k + 1, g1, n1, cap1, by omega, by go_num, rfl, hnew hrow1, grown_step (v := .slice none 0 0) hgr.out (fun g' hg' => .inr (hown g' hg')) hg1, (lies_step (v := .slice none 0 0) hgr.out.size (fun g' hg' => .inr (hown g' hg')) hl1).resolve_left (by simp [Value.ownBlock])⟩
    · go_wp2
      go_ret
      obtain rfl : k = s.size := by omega
      exact ⟨g, n, cap, rfl, by have h := hrow.out; rw [List.take_of_length_le (by simp)] at h; exact h, hgr.out, .inr hlie.out⟩

end Go.Proofs.YtfobmfenjdiimaaGreatDoor
