/- DescriptorSmallest: the walk. (printed by wip/gen_dscy.py) -/
import Derived.Test.YtfchfjipkggnkaaDoorDscY
import Derived.Test.YtfchfjipkggnkaaDoorRowDs
namespace Go.Proofs.YtfchfjipkggnkaaDoor
open Go.RowKit

set_option maxRecDepth 100000 in
set_option maxHeartbeats 1600000 in
theorem smallest_any (a : Option Addr) (n c : Nat) (f : Nat → Int) (m : Nat) (hm : m ≤ 255) (w : World) (hu : Usages w) (hn : n ≤ 9223372036854775807) (hl : SlU8s w a n f) :
    Calls Tryd.prog 5 #[.slice a n c, .int .u8 m] w fun r w' => r = .returned (.bool true) ∧ Below w.heap.size w w' := by
  have HU : Hid (∀ W, Below w.heap.size w W → Usages W) := fun W h => hu.below h hu.pos
  have HI : Hid (∀ W, Below w.heap.size w W → SlU8s W a n f) := fun W h => hl.later h
  have Hu := Lib.hid hu
  clear hu hl
  go_enter Tryd.func5, Tryd.ntmps5
  go_wp2_with fail
  refine (kEmpty w Hu.out).mono ?_
  rintro r w1 ⟨rfl, hnew⟩
  have Hnew := Lib.hid hnew; clear hnew
  go_wp2_with fail
  refine Hnew.out.mono ?_
  rintro r w2 ⟨rfl, k0⟩
  have K0 := Lib.hid k0; clear k0 Hnew
  go_wp2_with fail
  refine (kMake K0.out (by decide)).mono ?_
  rintro r w3 ⟨rfl, k1, -⟩
  have K1 := Lib.hid k1; clear k1 K0
  go_wp2_with fail
  go_loopw [6] (fun iv wr => ∃ (i : Nat) (t : List OpnT), i ≤ 16 ∧ iv = .int .i64 i ∧ Hid (GT t (fun j => decide (i ≤ j))) ∧ Hid (KV w wr (w.heap.size + 3) 0 (fun _ => False) (1 + i) (some t))) (fun iv _ => 16 - (intOf iv).toNat)
  case atStart => exact ⟨0, zeroTab, by omega, rfl, gt_zero, K1.out⟩
  case round =>
    obtain ⟨i, t, hi, rfl, HG, T⟩ := hrel
    clear K1
    by_cases hi2 : i < 16
    · have hga := gt_add HG.out hi2 (by simp) (fun j hj => by simp; omega) (i : Int)
      have Hga := Lib.hid hga
      clear hga
      go_wp2_with fail
      refine (file_any (i : Int) _).mono ?_
      rintro r w4 ⟨rfl, hb⟩
      have T1 := Lib.hid (T.out.later hb); clear hb T
      go_wp2_with fail
      refine (kAdd T1.out (by omega) (i : Int) (by omega) (by omega)).mono ?_
      rintro r w5 hp
      obtain ⟨rfl, k1, -⟩ := hp.is (v' := .tuple #[.int .i64 i, .int .i64 0]) (by rw [Hga.out.1]; rfl) (stepD_of Hga.out.1)
      have T2 := Lib.hid k1
      have HG2 : Hid (GT (t.set i (fileO i)) (fun j => decide (i + 1 ≤ j))) := Hga.out.2.congr (fun j hj => by unfold updB; by_cases e : j = i <;> simp [e] <;> omega)
      clear k1 hp T1 Hga HG
      go_wp2
      go_roundw
      case rel => exact ⟨i + 1, _, by omega, by go_num, HG2.out, by rw [← Nat.add_assoc]; exact T2.out⟩
      case measure => simp [intOf]; omega
    · obtain rfl : i = 16 := by omega
      have HF : Hid (∀ j, j < 16 → (fun j : Nat => decide (16 ≤ j)) j = false) := fun j hj => by simp; omega
      have Hfu := Lib.hid (gt_full HG.out HF.out (fileO 0))
      have Hdu := Lib.hid (gt_dup HG.out HF.out)
      go_wp2_with fail
      refine (file_any 0 _).mono ?_
      rintro r w4 ⟨rfl, hb⟩
      have T1 := Lib.hid (T.out.later hb); clear hb T
      go_wp2_with fail
      refine (kAdd T1.out (by decide) 0 (by decide) (by decide)).mono ?_
      rintro r w5 hp
      obtain ⟨rfl, k1, -⟩ := hp.is (v' := .tuple #[.int .i64 0, .int .i64 9]) (by rw [Hfu.out]; rfl) (stepD_no Hfu.out)
      have T2 := Lib.hid k1
      clear k1 hp T1 Hfu
      go_wp2_with fail
      refine (kDup T2.out (by decide) 3).mono ?_
      rintro r w6 hp
      obtain ⟨rfl, k1, -⟩ := hp.is (v' := .tuple #[.int .i64 0, .int .i64 9]) (by rw [Hdu.out]; rfl) (stepD_no Hdu.out)
      have T3 := Lib.hid k1
      clear k1 hp T2 Hdu HF
      have T4 : Hid (KV w (w6.alloc (.cells #[.bool false, .bool false, .bool false, .bool false, .bool false, .bool false, .bool false, .bool false, .bool false, .bool false, .bool false, .bool false, .bool false, .bool false, .bool false, .bool false] 51)) (w.heap.size + 3) 0 (fun k => k = w6.heap.size) (1 + 16 + 1 + 1) (some t)) := T3.out.fresh ((Below.refl _ _).alloc (Nat.le_refl _) _) (fun k hk => .inr (by subst hk; simp))
      have Go : Hid (GoneAt (w6.alloc (.cells #[.bool false, .bool false, .bool false, .bool false, .bool false, .bool false, .bool false, .bool false, .bool false, .bool false, .bool false, .bool false, .bool false, .bool false, .bool false, .bool false] 51)) w6.heap.size (fun j => decide (16 ≤ j))) := ⟨_, World.alloc_heap_new w6 _, rfl, fun i hi => by
        have hd : decide (16 ≤ i) = false := decide_eq_false (by omega)
        show _ = some (Value.bool (decide (16 ≤ i)))
        rw [hd]
        rcases (by omega : i = 0 ∨ i = 1 ∨ i = 2 ∨ i = 3 ∨ i = 4 ∨ i = 5 ∨ i = 6 ∨ i = 7 ∨ i = 8 ∨ i = 9 ∨ i = 10 ∨ i = 11 ∨ i = 12 ∨ i = 13 ∨ i = 14 ∨ i = 15) with rfl | rfl | rfl | rfl | rfl | rfl | rfl | rfl | rfl | rfl | rfl | rfl | rfl | rfl | rfl | rfl <;> rfl⟩
      clear T3
      obtain ⟨R, hR⟩ : ∃ R, w6.heap.size = R := ⟨_, rfl⟩
      rw [hR] at T4 Go
      go_wp2_with fail
      clear hR
      go_loopw [14] (fun iv wr => ∃ (i : Nat) (t : List OpnT) (γ : Nat → Bool), i ≤ 20 ∧ i ≤ n ∧ iv = .int .i64 i ∧ Hid (GT t γ) ∧ Hid (KV w wr (w.heap.size + 3) 0 (fun k => k = R) (19 + i) (some t)) ∧ Hid (GoneAt wr R γ)) (fun iv _ => 20 - (intOf iv).toNat)
      case atStart => exact ⟨0, t, _, by omega, by omega, rfl, HG.out, T4.out, Go.out⟩
      case round =>
        clear HG T4 Go
        obtain ⟨i, t, γ, hi, hin, rfl, HG, T, Go⟩ := hrel
        by_cases h1 : i < n
        · by_cases h2 : i < 20
          · obtain ⟨g1, o1, rfl, hc⟩ := (HI.out wr T.out.below) (by omega)
            obtain ⟨z, hx0, hx1⟩ := hc i h1
            clear hc
            obtain ⟨x, hx⟩ := Int.eq_ofNat_of_zero_le hx0
            rw [hx] at z hx1
            clear hx0 hx
            obtain ⟨k, hk⟩ : ∃ k, x % 16 = k := ⟨_, rfl⟩
            have hk16 : k < 16 := by omega
            go_upto_region 19 with fail
            have hkx : ((x : Int) % 16) = (k : Int) := by omega
            rw [hkx]
            clear hkx hk
            clear z hx1
            have hcl := gt_close HG.out hk16
            obtain ⟨hcE, t2, hst, hG2⟩ := hcl
            have HG2 := Lib.hid hG2
            have HcE := Lib.hid hcE
            have Hst := Lib.hid hst
            clear hcE hst hG2 HG
            go_wp2_with fail
            refine (kClose T.out (by omega) (k : Int)).mono ?_
            rintro r w7 hp
            obtain ⟨ok, om, ob, on, oo, o1, o2, o3, ho⟩ : ∃ ok om ob on oo o1 o2 o3, (closeF (k : Int) t).1.O = ⟨ok, om, ob, on, oo, o1, o2, o3⟩ := ⟨_, _, _, _, _, _, _, _, rfl⟩
            obtain ⟨rfl, k1, hkk⟩ := hp.is (v' := .tuple #[.agg #[.int .i64 ok, .string om, .int .i64 ob, .int .i64 on, .int .i64 oo, .bool o1, .bool o2, .bool o3], .int .i64 ((if γ k = true then 21 else 0 : Nat) : Int)]) (by rw [HcE.out, ho]; rfl) Hst.out
            have OB : Hid (Below w7.heap.size w7 (w7.alloc (.cells #[.int .i64 ok, .string om, .int .i64 ob, .int .i64 on, .int .i64 oo, .bool o1, .bool o2, .bool o3] 26))) := (Below.refl _ _).alloc (Nat.le_refl _) _
            have T2 := Lib.hid (k1.later OB.out)
            have Go2 := Lib.hid ((Go.out.kept (hkk _ rfl)).later OB.out)
            clear hp k1 hkk HcE Hst T ho OB Go
            have T3 := Lib.hid (T2.out.set rfl k (.bool true))
            have Go3 := Lib.hid (Go2.out.set k true)
            have y := Go2.out.cell hk16
            have yf := Go2.out.free k
            have i0 : (0 : Int) ≤ (k : Int) := by omega
            have i1 : (k : Int) < 16 := by omega
            clear T2 Go2
            cases hg : γ k with
            | true =>
              rw [hg] at y
              clear hg
              go_wp2
              go_roundw
              case rel => exact ⟨i + 1, t2, _, by omega, by omega, by go_num, HG2.out, by rw [← Nat.add_assoc]; exact T3.out, Go3.out⟩
              case measure => simp [intOf]; omega
            | false =>
              rw [hg] at y
              clear hg
              go_wp2
              go_roundw
              case rel => exact ⟨i + 1, t2, _, by omega, by omega, by go_num, HG2.out, by rw [← Nat.add_assoc]; exact T3.out, Go3.out⟩
              case measure => simp [intOf]; omega
          · obtain ⟨k2, hk2⟩ : ∃ k2, m % 16 = k2 := ⟨_, rfl⟩
            have hk216 : k2 < 16 := by omega
            have T1 : Hid (KV w wr (w.heap.size + 3) 0 (fun k => k = R) (60) (some t)) := by
              obtain ⟨V, s, h1, h2⟩ := T.out
              exact ⟨V, s, h1, by omega⟩
            clear T
            go_wp2_with fail
            go_loopw [18] (fun iv wr => ∃ (i : Nat) (t : List OpnT) (γ : Nat → Bool), i ≤ 16 ∧ iv = .int .i64 i ∧ Hid (GT t γ) ∧ Hid (KV w wr (w.heap.size + 3) 0 (fun k => k = R) (60 + i) (some t)) ∧ Hid (GoneAt wr R γ)) (fun iv _ => 16 - (intOf iv).toNat)
            case atStart => exact ⟨0, t, _, by omega, rfl, HG.out, T1.out, Go.out⟩
            case round =>
              clear HG T1 Go
              obtain ⟨i, t, γ, hi, rfl, HG, T, Go⟩ := hrel
              by_cases h2 : i < k2
              · have hmk : ((m : Int) % 16) = (k2 : Int) := by omega
                go_wp2_with fail
                go_loopw [19] (fun jv wx => ∃ j : Nat, j ≤ 16 ∧ jv = .int .i64 j ∧ Hid (∀ i, i < j → γ i = false) ∧ wx = wr) (fun jv _ => 16 - (intOf jv).toNat)
                case atStart => exact ⟨0, by omega, rfl, fun i hi => absurd hi (Nat.not_lt_zero _), rfl⟩
                case round =>
                  obtain ⟨j, hj, rfl, HJ, rfl⟩ := hrel
                  by_cases hj2 : j < 16
                  · have y := Go.out.cell hj2
                    have i0 : (0 : Int) ≤ (j : Int) := by omega
                    have i1 : (j : Int) < 16 := by omega
                    cases hg : γ j with
                    | false =>
                      rw [hg] at y
                      have HJ2 : Hid (∀ i, i < j + 1 → γ i = false) := fun i hi => by
                        by_cases e : i = j
                        · rw [e]; exact hg
                        · exact HJ.out i (by omega)
                      clear hg HJ
                      go_wp2
                      go_roundw
                      case rel => exact ⟨j + 1, by omega, by go_num, HJ2.out, by trivial⟩
                      case measure => simp [intOf]; omega
                    | true =>
                      have Hga := Lib.hid (gt_add HG.out hj2 hg HJ.out (100 + (i : Int)))
                      rw [hg] at y
                      clear hg HJ HG
                      go_wp2_with fail
                      refine (file_any (100 + (i : Int)) _).mono ?_
                      rintro r w4 ⟨rfl, hb⟩
                      have T1 := Lib.hid (T.out.later hb)
                      have Go1 := Lib.hid (Go.out.later hb)
                      clear hb T Go y
                      go_wp2_with fail
                      refine (kAdd T1.out (by omega) (100 + (i : Int)) (by omega) (by omega)).mono ?_
                      rintro r w5 hp
                      obtain ⟨rfl, k1, hkk⟩ := hp.is (v' := .tuple #[.int .i64 j, .int .i64 0]) (by rw [Hga.out.1]; rfl) (stepD_of Hga.out.1)
                      have T3 := Lib.hid (k1.set rfl j (.bool false))
                      have Go2 := Lib.hid (Go1.out.kept (hkk _ rfl))
                      have HG2 := Lib.hid Hga.out.2
                      have Go3 := Lib.hid (Go2.out.set j false)
                      have y := Go2.out.cell hj2
                      have yf := Go2.out.free j
                      clear k1 hp hkk T1 Go1 Go2 Hga
                      go_wp2
                      go_roundw
                      case rel => exact ⟨i + 1, _, _, by omega, by go_num, HG2.out, by rw [← Nat.add_assoc]; exact T3.out, Go3.out⟩
                      case measure => simp [intOf]; omega
                  · obtain rfl : j = 16 := by omega
                    have Hfu := Lib.hid (gt_full HG.out HJ.out (fileO (100 + (i : Int))))
                    clear HJ HG
                    go_wp2_with fail
                    refine (file_any (100 + (i : Int)) _).mono ?_
                    rintro r w4 ⟨rfl, hb⟩
                    have T1 := Lib.hid (T.out.later hb)
                    clear hb T Go
                    go_wp2_with fail
                    refine (kAdd T1.out (by omega) (100 + (i : Int)) (by omega) (by omega)).mono ?_
                    rintro r w5 hp
                    obtain ⟨rfl, k1, -⟩ := hp.is (v' := .tuple #[.int .i64 0, .int .i64 9]) (by rw [Hfu.out]; rfl) (stepD_no Hfu.out)
                    have HK := Lib.hid (known31_any w5 (HU.out _ k1.below))
                    have HT := Lib.hid k1.below
                    clear hp T1 Hfu k1
                    go_wp2_with fail
                    refine HK.out.mono ?_
                    rintro r w9 ⟨rfl, hb⟩
                    have HF := Lib.hid (HT.out.trans (hb.mono HT.out.size))
                    clear hb HK HT
                    go_wp2
                    go_ret
                    exact ⟨rfl, HF.out⟩
              · have hmk : ((m : Int) % 16) = (k2 : Int) := by omega
                have HK := Lib.hid (known31_any wr (HU.out _ T.out.below))
                have HT := Lib.hid T.out.below
                clear T Go HG
                go_wp2_with fail
                refine HK.out.mono ?_
                rintro r w9 ⟨rfl, hb⟩
                have HF := Lib.hid (HT.out.trans (hb.mono HT.out.size))
                clear hb HK HT
                go_wp2
                go_ret
                exact ⟨rfl, HF.out⟩
        · obtain ⟨k2, hk2⟩ : ∃ k2, m % 16 = k2 := ⟨_, rfl⟩
          have hk216 : k2 < 16 := by omega
          have T1 : Hid (KV w wr (w.heap.size + 3) 0 (fun k => k = R) (60) (some t)) := by
            obtain ⟨V, s, h1, h2⟩ := T.out
            exact ⟨V, s, h1, by omega⟩
          clear T
          go_wp2_with fail
          go_loopw [18] (fun iv wr => ∃ (i : Nat) (t : List OpnT) (γ : Nat → Bool), i ≤ 16 ∧ iv = .int .i64 i ∧ Hid (GT t γ) ∧ Hid (KV w wr (w.heap.size + 3) 0 (fun k => k = R) (60 + i) (some t)) ∧ Hid (GoneAt wr R γ)) (fun iv _ => 16 - (intOf iv).toNat)
          case atStart => exact ⟨0, t, _, by omega, rfl, HG.out, T1.out, Go.out⟩
          case round =>
            clear HG T1 Go
            obtain ⟨i, t, γ, hi, rfl, HG, T, Go⟩ := hrel
            by_cases h2 : i < k2
            · have hmk : ((m : Int) % 16) = (k2 : Int) := by omega
              go_wp2_with fail
              go_loopw [19] (fun jv wx => ∃ j : Nat, j ≤ 16 ∧ jv = .int .i64 j ∧ Hid (∀ i, i < j → γ i = false) ∧ wx = wr) (fun jv _ => 16 - (intOf jv).toNat)
              case atStart => exact ⟨0, by omega, rfl, fun i hi => absurd hi (Nat.not_lt_zero _), rfl⟩
              case round =>
                obtain ⟨j, hj, rfl, HJ, rfl⟩ := hrel
                by_cases hj2 : j < 16
                · have y := Go.out.cell hj2
                  have i0 : (0 : Int) ≤ (j : Int) := by omega
                  have i1 : (j : Int) < 16 := by omega
                  cases hg : γ j with
                  | false =>
                    rw [hg] at y
                    have HJ2 : Hid (∀ i, i < j + 1 → γ i = false) := fun i hi => by
                      by_cases e : i = j
                      · rw [e]; exact hg
                      · exact HJ.out i (by omega)
                    clear hg HJ
                    go_wp2
                    go_roundw
                    case rel => exact ⟨j + 1, by omega, by go_num, HJ2.out, by trivial⟩
                    case measure => simp [intOf]; omega
                  | true =>
                    have Hga := Lib.hid (gt_add HG.out hj2 hg HJ.out (100 + (i : Int)))
                    rw [hg] at y
                    clear hg HJ HG
                    go_wp2_with fail
                    refine (file_any (100 + (i : Int)) _).mono ?_
                    rintro r w4 ⟨rfl, hb⟩
                    have T1 := Lib.hid (T.out.later hb)
                    have Go1 := Lib.hid (Go.out.later hb)
                    clear hb T Go y
                    go_wp2_with fail
                    refine (kAdd T1.out (by omega) (100 + (i : Int)) (by omega) (by omega)).mono ?_
                    rintro r w5 hp
                    obtain ⟨rfl, k1, hkk⟩ := hp.is (v' := .tuple #[.int .i64 j, .int .i64 0]) (by rw [Hga.out.1]; rfl) (stepD_of Hga.out.1)
                    have T3 := Lib.hid (k1.set rfl j (.bool false))
                    have Go2 := Lib.hid (Go1.out.kept (hkk _ rfl))
                    have HG2 := Lib.hid Hga.out.2
                    have Go3 := Lib.hid (Go2.out.set j false)
                    have y := Go2.out.cell hj2
                    have yf := Go2.out.free j
                    clear k1 hp hkk T1 Go1 Go2 Hga
                    go_wp2
                    go_roundw
                    case rel => exact ⟨i + 1, _, _, by omega, by go_num, HG2.out, by rw [← Nat.add_assoc]; exact T3.out, Go3.out⟩
                    case measure => simp [intOf]; omega
                · obtain rfl : j = 16 := by omega
                  have Hfu := Lib.hid (gt_full HG.out HJ.out (fileO (100 + (i : Int))))
                  clear HJ HG
                  go_wp2_with fail
                  refine (file_any (100 + (i : Int)) _).mono ?_
                  rintro r w4 ⟨rfl, hb⟩
                  have T1 := Lib.hid (T.out.later hb)
                  clear hb T Go
                  go_wp2_with fail
                  refine (kAdd T1.out (by omega) (100 + (i : Int)) (by omega) (by omega)).mono ?_
                  rintro r w5 hp
                  obtain ⟨rfl, k1, -⟩ := hp.is (v' := .tuple #[.int .i64 0, .int .i64 9]) (by rw [Hfu.out]; rfl) (stepD_no Hfu.out)
                  have HK := Lib.hid (known31_any w5 (HU.out _ k1.below))
                  have HT := Lib.hid k1.below
                  clear hp T1 Hfu k1
                  go_wp2_with fail
                  refine HK.out.mono ?_
                  rintro r w9 ⟨rfl, hb⟩
                  have HF := Lib.hid (HT.out.trans (hb.mono HT.out.size))
                  clear hb HK HT
                  go_wp2
                  go_ret
                  exact ⟨rfl, HF.out⟩
            · have hmk : ((m : Int) % 16) = (k2 : Int) := by omega
              have HK := Lib.hid (known31_any wr (HU.out _ T.out.below))
              have HT := Lib.hid T.out.below
              clear T Go HG
              go_wp2_with fail
              refine HK.out.mono ?_
              rintro r w9 ⟨rfl, hb⟩
              have HF := Lib.hid (HT.out.trans (hb.mono HT.out.size))
              clear hb HK HT
              go_wp2
              go_ret
              exact ⟨rfl, HF.out⟩
end Go.Proofs.YtfchfjipkggnkaaDoor
