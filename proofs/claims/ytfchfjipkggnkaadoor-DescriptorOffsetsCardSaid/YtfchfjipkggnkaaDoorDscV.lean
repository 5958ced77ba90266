/- DescriptorOffsets: the walk. (printed by wip/gen_dscv.py) -/
import Derived.Test.YtfchfjipkggnkaaDoorDscU
import Derived.Test.YtfchfjipkggnkaaDoorRowDs
namespace Go.Proofs.YtfchfjipkggnkaaDoor
open Go.RowKit

def tO (q : Int) : List OpnT := zeroTab.set 0 ⟨1, ⟨#[49]⟩, 1, 0, q, true, false, false⟩
theorem tO_zero : kT1 = tO 0 := rfl
theorem tO_move {g : Int → Int} {q : Int} : moveF 0 g (tO q) = if g q < 0 ∨ 4096 < g q then (errD 2, none) else if g q = q then (errD 0, none) else (errD 0, some (some (tO (g q)))) := by
  have h0 : badD (tO q) 0 = false := rfl
  have h1 : ¬ badD (tO q) 0 = true := by rw [h0]; decide
  unfold moveF
  rw [if_neg h1]
  rfl
theorem mv_bad {g : Int → Int} {q z : Int} (hz : g q = z) (h : z < 0 ∨ 4096 < z) : (moveF 0 g (tO q)).1.E = 2 ∧ stepD (moveF 0 g) (tO q) = some (tO q) := by
  subst hz
  have e : moveF 0 g (tO q) = (errD 2, none) := by rw [tO_move, if_pos h]
  exact ⟨by rw [e]; rfl, stepD_no e⟩
theorem mv_ok {g : Int → Int} {q z : Int} (hz : g q = z) (h : ¬ (z < 0 ∨ 4096 < z)) : (moveF 0 g (tO q)).1.E = 0 ∧ stepD (moveF 0 g) (tO q) = some (tO z) := by
  subst hz
  by_cases h2 : g q = q
  · have e : moveF 0 g (tO q) = (errD 0, none) := by rw [tO_move, if_neg h, if_pos h2]
    exact ⟨by rw [e]; rfl, by rw [stepD_no e, h2]⟩
  · have e : moveF 0 g (tO q) = (errD 0, some (some (tO (g q)))) := by rw [tO_move, if_neg h, if_neg h2]
    exact ⟨by rw [e]; rfl, stepD_of e⟩
theorem tO_get {q : Int} : getF 0 (tO q) = (⟨zeroTab, ⟨1, ⟨#[49]⟩, 1, 0, q, true, false, false⟩, 0, 0⟩, none) := by
  have h0 : badD (tO q) 0 = false := rfl
  have h1 : ¬ badD (tO q) 0 = true := by rw [h0]; decide
  unfold getF
  rw [if_neg h1]
  rfl
def clampD (d : Int) : Int := if 100000 < if d < -100000 then -100000 else d then 100000 else if d < -100000 then -100000 else d
theorem clampD_is (d : Int) : (d < -100000 ∧ clampD d = -100000) ∨ (-100000 ≤ d ∧ d ≤ 100000 ∧ clampD d = d) ∨ (100000 < d ∧ clampD d = 100000) := by
  unfold clampD
  by_cases h : d < -100000
  · rw [if_pos h, if_neg (by omega)]; exact .inl ⟨h, rfl⟩
  · rw [if_neg h]
    by_cases h2 : 100000 < d
    · rw [if_pos h2]; exact .inr (.inr ⟨h2, rfl⟩)
    · rw [if_neg h2]; exact .inr (.inl ⟨by omega, by omega, rfl⟩)
theorem clamp_seek (d : Int) : (clampD d < 0 ↔ d < 0) ∧ (4096 < clampD d ↔ 4096 < d) ∧ (¬ (d < 0 ∨ 4096 < d) → clampD d = d) := by
  have := clampD_is d
  generalize clampD d = m at *
  omega
theorem clamp_adv {d q : Int} (h0 : 0 ≤ q) (h1 : q ≤ 4096) (hd : -9223372036854775808 ≤ d ∧ d ≤ 9223372036854775807) : (clampD d + q < 0 ∨ 4096 < clampD d + q ↔ advG d q < 0 ∨ 4096 < advG d q) ∧ (¬ (advG d q < 0 ∨ 4096 < advG d q) → clampD d + q = advG d q) ∧ -100000 ≤ clampD d ∧ clampD d ≤ 100000 := by
  have := clampD_is d
  generalize clampD d = m at *
  unfold advG
  split <;> omega
set_option maxRecDepth 100000 in
set_option maxHeartbeats 3200000 in
theorem offsets_any (a : Option Addr) (n c : Nat) (f : Nat → Int) (a2 : Option Addr) (n2 c2 : Nat) (g : Nat → Bool) (w : World) (hu : Usages w) (hn : n ≤ 9223372036854775807) (hn2 : n2 ≤ 9223372036854775807) (hl : SlInts w a n f) (hl2 : SlBls w a2 n2 g) :
    Calls Tryd.prog 6 #[.slice a n c, .slice a2 n2 c2] w fun r w' => r = .returned (.bool true) ∧ Below w.heap.size w w' := by
  have HU : Hid (∀ W, Below w.heap.size w W → Usages W) := fun W h => hu.below h hu.pos
  have HI : Hid (∀ W, Below w.heap.size w W → SlInts W a n f) := fun W h => hl.later h
  have HBo : Hid (∀ W, Below w.heap.size w W → SlBls W a2 n2 g) := fun W h => hl2.later h
  have Hu := Lib.hid hu
  clear hu hl hl2
  go_enter Tryd.func6, Tryd.ntmps6
  go_wp2_with fail
  refine (kEmpty w Hu.out).mono ?_
  rintro r w1 ⟨rfl, hnew⟩
  have Hnew := Lib.hid hnew; clear hnew
  go_wp2_with fail
  refine Hnew.out.mono ?_
  rintro r w2 ⟨rfl, k0⟩
  have K0 := Lib.hid k0; clear k0 Hnew
  go_wp2_with fail
  refine (kMake K0.out (by decide)).mono ?_
  rintro r w3 ⟨rfl, k1, -⟩
  have K1 := Lib.hid k1; clear k1 K0
  go_wp2_with fail
  refine (file_any 1 _).mono ?_
  rintro r w4 ⟨rfl, hb⟩
  have K2 := Lib.hid (K1.out.later hb); clear hb K1
  go_wp2_with fail
  refine (kAdd K2.out (by decide) 1 (by decide) (by decide)).mono ?_
  rintro r w5 hp
  obtain ⟨rfl, k1, -⟩ := hp.is (v' := .tuple #[.int .i64 0, .int .i64 0]) (by rw [k_a1]; rfl) (stepD_of k_a1)
  have K3 := Lib.hid k1; clear k1 hp K2
  go_wp2_with fail
  go_loopw [8, 9] (fun av iv wr => ∃ (k : Nat) (q : Int), k ≤ 20 ∧ k ≤ n ∧ iv = .int .i64 k ∧ av = .int .i64 q ∧ Hid (0 ≤ q ∧ q ≤ 4096) ∧ Hid (KV w wr (w.heap.size + 3) 0 (fun _ => False) (2 + 2 * k) (some (tO q)))) (fun _ iv _ => 20 - (intOf iv).toNat)
  case atStart => exact ⟨0, 0, by omega, by omega, rfl, rfl, ⟨by decide, by decide⟩, K3.out⟩
  case round =>
    obtain ⟨k, q, hk, hkn, rfl, rfl, Hq, T⟩ := hrel
    clear K3
    have hkb : 2 + 2 * k < 999999 := by omega
    have Hkb := Lib.hid hkb
    clear hkb
    by_cases h1 : k < n
    · by_cases h2 : k < 20
      · obtain ⟨g1, o1, rfl, hc⟩ := (HI.out wr T.out.below) (by omega)
        obtain ⟨z, hdb⟩ := hc k h1
        have Hd := Lib.hid hdb
        clear hc hdb
        generalize f k = d at *
        go_upto_region 12 with fail
        have hfold : (if 100000 < if d < -100000 then -100000 else d then 100000 else if d < -100000 then -100000 else d) = clampD d := rfl
        rw [hfold]
        clear hfold
        obtain ⟨mx, hmx⟩ : ∃ mx, (if d < -100000 then -100000 else d) = mx := ⟨_, rfl⟩
        rw [hmx]
        clear hmx
        by_cases h3 : k < n2
        · obtain ⟨g2, o2, rfl, hc2⟩ := (HBo.out wr T.out.below) (by omega)
          have z2 := hc2 k h3
          clear hc2
          cases hg : g k with
          | true =>
            rw [hg] at z2
            clear hg
            have hcs := clamp_seek d
            have Hcs := Lib.hid hcs
            clear hcs
            obtain ⟨m, hm⟩ : ∃ m, clampD d = m := ⟨_, rfl⟩
            rw [hm] at Hcs ⊢
            clear hm
            go_wp2_with fail
            refine (kSeek T.out Hkb.out 0 d).mono ?_
            rintro r w6 hp
            by_cases hd : d < 0 ∨ 4096 < d
            · obtain ⟨rfl, k1, -⟩ := hp.is (v' := .int .i64 2) (by rw [(mv_bad (g := fun _ => d) rfl hd).1]; rfl) (mv_bad (g := fun _ => d) rfl hd).2
              have K1 := Lib.hid k1
              have hm : m < 0 ∨ 4096 < m := by have := Hcs.out; omega
              clear k1 hp Hcs hd z z2 T
              by_cases m0 : m < 0
              · have m1 : ¬ (0 ≤ m) := by omega
                clear hm
                go_wp2_with fail
                refine (kGet K1.out 0).mono ?_
                rintro r w7 hp
                obtain ⟨rfl, k2, -⟩ := hp.is (v' := .tuple #[.agg #[.int .i64 1, .string ⟨#[49]⟩, .int .i64 1, .int .i64 0, .int .i64 (q), .bool true, .bool false, .bool false], .int .i64 0]) (by rw [tO_get]; rfl) (stepD_no tO_get)
                have K2 : Hid (KV w (w7.alloc (.cells #[.int .i64 1, .string ⟨#[49]⟩, .int .i64 1, .int .i64 0, .int .i64 (q), .bool true, .bool false, .bool false] 26)) (w.heap.size + 3) 0 (fun _ => False) (2 + 2 * k + 1 + 1) (some (tO (q)))) := k2.later ((Below.refl _ _).alloc (Nat.le_refl _) _)
                clear k2 hp K1
                go_wp2
                go_roundw
                case rel => exact ⟨k + 1, q, by omega, by omega, by go_num, rfl, Hq, K2.out⟩
                case measure => simp [intOf]; omega
              · have m1 : 0 ≤ m := by omega
                have m2 : ¬ (m ≤ 4096) := by omega
                clear hm m0
                go_wp2_with fail
                refine (kGet K1.out 0).mono ?_
                rintro r w7 hp
                obtain ⟨rfl, k2, -⟩ := hp.is (v' := .tuple #[.agg #[.int .i64 1, .string ⟨#[49]⟩, .int .i64 1, .int .i64 0, .int .i64 (q), .bool true, .bool false, .bool false], .int .i64 0]) (by rw [tO_get]; rfl) (stepD_no tO_get)
                have K2 : Hid (KV w (w7.alloc (.cells #[.int .i64 1, .string ⟨#[49]⟩, .int .i64 1, .int .i64 0, .int .i64 (q), .bool true, .bool false, .bool false] 26)) (w.heap.size + 3) 0 (fun _ => False) (2 + 2 * k + 1 + 1) (some (tO (q)))) := k2.later ((Below.refl _ _).alloc (Nat.le_refl _) _)
                clear k2 hp K1
                go_wp2
                go_roundw
                case rel => exact ⟨k + 1, q, by omega, by omega, by go_num, rfl, Hq, K2.out⟩
                case measure => simp [intOf]; omega
            · obtain ⟨rfl, k1, -⟩ := hp.is (v' := .int .i64 0) (by rw [(mv_ok (g := fun _ => d) rfl hd).1]; rfl) (mv_ok (g := fun _ => d) rfl hd).2
              have K1 := Lib.hid k1
              obtain rfl : m = d := Hcs.out.2.2 hd
              have m1 : 0 ≤ m := by omega
              have m2 : m ≤ 4096 := by omega
              have Hz : Hid (0 ≤ m ∧ m ≤ 4096) := ⟨m1, m2⟩
              clear k1 hp Hcs hd z z2 T
              go_wp2_with fail
              refine (kGet K1.out 0).mono ?_
              rintro r w7 hp
              obtain ⟨rfl, k2, -⟩ := hp.is (v' := .tuple #[.agg #[.int .i64 1, .string ⟨#[49]⟩, .int .i64 1, .int .i64 0, .int .i64 (m), .bool true, .bool false, .bool false], .int .i64 0]) (by rw [tO_get]; rfl) (stepD_no tO_get)
              have K2 : Hid (KV w (w7.alloc (.cells #[.int .i64 1, .string ⟨#[49]⟩, .int .i64 1, .int .i64 0, .int .i64 (m), .bool true, .bool false, .bool false] 26)) (w.heap.size + 3) 0 (fun _ => False) (2 + 2 * k + 1 + 1) (some (tO (m)))) := k2.later ((Below.refl _ _).alloc (Nat.le_refl _) _)
              clear k2 hp K1
              go_wp2
              go_roundw
              case rel => exact ⟨k + 1, m, by omega, by omega, by go_num, rfl, Hz, K2.out⟩
              case measure => simp [intOf]; omega
          | false =>
            rw [hg] at z2
            clear hg
            have hca := clamp_adv Hq.out.1 Hq.out.2 Hd.out
            have Hcs := Lib.hid hca
            clear hca
            obtain ⟨m, hm⟩ : ∃ m, clampD d = m := ⟨_, rfl⟩
            rw [hm] at Hcs ⊢
            clear hm
            go_wp2_with fail
            refine (kAdvance T.out Hkb.out 0 d Hd.out).mono ?_
            rintro r w6 hp
            obtain ⟨y, hy⟩ : ∃ y, advG d q = y := ⟨_, rfl⟩
            rw [hy] at Hcs
            have hb0 := Hcs.out.2.2
            have hqq := Hq.out
            by_cases hd : y < 0 ∨ 4096 < y
            · obtain ⟨rfl, k1, -⟩ := hp.is (v' := .int .i64 2) (by rw [(mv_bad hy hd).1]; rfl) (mv_bad hy hd).2
              have K1 := Lib.hid k1
              have hm : m + q < 0 ∨ 4096 < m + q := Hcs.out.1.2 hd
              clear k1 hp Hcs hd hy z z2 T
              by_cases m0 : m + q < 0
              · have m1 : ¬ (0 ≤ m + q) := by omega
                clear hm
                go_wp2_with fail
                refine (kGet K1.out 0).mono ?_
                rintro r w7 hp
                obtain ⟨rfl, k2, -⟩ := hp.is (v' := .tuple #[.agg #[.int .i64 1, .string ⟨#[49]⟩, .int .i64 1, .int .i64 0, .int .i64 (q), .bool true, .bool false, .bool false], .int .i64 0]) (by rw [tO_get]; rfl) (stepD_no tO_get)
                have K2 : Hid (KV w (w7.alloc (.cells #[.int .i64 1, .string ⟨#[49]⟩, .int .i64 1, .int .i64 0, .int .i64 (q), .bool true, .bool false, .bool false] 26)) (w.heap.size + 3) 0 (fun _ => False) (2 + 2 * k + 1 + 1) (some (tO (q)))) := k2.later ((Below.refl _ _).alloc (Nat.le_refl _) _)
                clear k2 hp K1
                go_wp2
                go_roundw
                case rel => exact ⟨k + 1, q, by omega, by omega, by go_num, rfl, Hq, K2.out⟩
                case measure => simp [intOf]; omega
              · have m1 : 0 ≤ m + q := by omega
                have m2 : ¬ (m + q ≤ 4096) := by omega
                clear hm m0
                go_wp2_with fail
                refine (kGet K1.out 0).mono ?_
                rintro r w7 hp
                obtain ⟨rfl, k2, -⟩ := hp.is (v' := .tuple #[.agg #[.int .i64 1, .string ⟨#[49]⟩, .int .i64 1, .int .i64 0, .int .i64 (q), .bool true, .bool false, .bool false], .int .i64 0]) (by rw [tO_get]; rfl) (stepD_no tO_get)
                have K2 : Hid (KV w (w7.alloc (.cells #[.int .i64 1, .string ⟨#[49]⟩, .int .i64 1, .int .i64 0, .int .i64 (q), .bool true, .bool false, .bool false] 26)) (w.heap.size + 3) 0 (fun _ => False) (2 + 2 * k + 1 + 1) (some (tO (q)))) := k2.later ((Below.refl _ _).alloc (Nat.le_refl _) _)
                clear k2 hp K1
                go_wp2
                go_roundw
                case rel => exact ⟨k + 1, q, by omega, by omega, by go_num, rfl, Hq, K2.out⟩
                case measure => simp [intOf]; omega
            · obtain ⟨rfl, k1, -⟩ := hp.is (v' := .int .i64 0) (by rw [(mv_ok hy hd).1]; rfl) (mv_ok hy hd).2
              have hmy : m + q = y := Hcs.out.2.1 hd
              subst hmy
              have K1 := Lib.hid k1
              have m1 : 0 ≤ m + q := by omega
              have m2 : m + q ≤ 4096 := by omega
              have Hz : Hid (0 ≤ m + q ∧ m + q ≤ 4096) := ⟨m1, m2⟩
              clear k1 hp Hcs hd hy z z2 T
              go_wp2_with fail
              refine (kGet K1.out 0).mono ?_
              rintro r w7 hp
              obtain ⟨rfl, k2, -⟩ := hp.is (v' := .tuple #[.agg #[.int .i64 1, .string ⟨#[49]⟩, .int .i64 1, .int .i64 0, .int .i64 (m + q), .bool true, .bool false, .bool false], .int .i64 0]) (by rw [tO_get]; rfl) (stepD_no tO_get)
              have K2 : Hid (KV w (w7.alloc (.cells #[.int .i64 1, .string ⟨#[49]⟩, .int .i64 1, .int .i64 0, .int .i64 (m + q), .bool true, .bool false, .bool false] 26)) (w.heap.size + 3) 0 (fun _ => False) (2 + 2 * k + 1 + 1) (some (tO (m + q)))) := k2.later ((Below.refl _ _).alloc (Nat.le_refl _) _)
              clear k2 hp K1
              go_wp2
              go_roundw
              case rel => exact ⟨k + 1, m + q, by omega, by omega, by go_num, rfl, Hz, K2.out⟩
              case measure => simp [intOf]; omega
        · have hca := clamp_adv Hq.out.1 Hq.out.2 Hd.out
          have Hcs := Lib.hid hca
          clear hca
          obtain ⟨m, hm⟩ : ∃ m, clampD d = m := ⟨_, rfl⟩
          rw [hm] at Hcs ⊢
          clear hm
          go_wp2_with fail
          refine (kAdvance T.out Hkb.out 0 d Hd.out).mono ?_
          rintro r w6 hp
          obtain ⟨y, hy⟩ : ∃ y, advG d q = y := ⟨_, rfl⟩
          rw [hy] at Hcs
          have hb0 := Hcs.out.2.2
          have hqq := Hq.out
          by_cases hd : y < 0 ∨ 4096 < y
          · obtain ⟨rfl, k1, -⟩ := hp.is (v' := .int .i64 2) (by rw [(mv_bad hy hd).1]; rfl) (mv_bad hy hd).2
            have K1 := Lib.hid k1
            have hm : m + q < 0 ∨ 4096 < m + q := Hcs.out.1.2 hd
            clear k1 hp Hcs hd hy z T
            by_cases m0 : m + q < 0
            · have m1 : ¬ (0 ≤ m + q) := by omega
              clear hm
              go_wp2_with fail
              refine (kGet K1.out 0).mono ?_
              rintro r w7 hp
              obtain ⟨rfl, k2, -⟩ := hp.is (v' := .tuple #[.agg #[.int .i64 1, .string ⟨#[49]⟩, .int .i64 1, .int .i64 0, .int .i64 (q), .bool true, .bool false, .bool false], .int .i64 0]) (by rw [tO_get]; rfl) (stepD_no tO_get)
              have K2 : Hid (KV w (w7.alloc (.cells #[.int .i64 1, .string ⟨#[49]⟩, .int .i64 1, .int .i64 0, .int .i64 (q), .bool true, .bool false, .bool false] 26)) (w.heap.size + 3) 0 (fun _ => False) (2 + 2 * k + 1 + 1) (some (tO (q)))) := k2.later ((Below.refl _ _).alloc (Nat.le_refl _) _)
              clear k2 hp K1
              go_wp2
              go_roundw
              case rel => exact ⟨k + 1, q, by omega, by omega, by go_num, rfl, Hq, K2.out⟩
              case measure => simp [intOf]; omega
            · have m1 : 0 ≤ m + q := by omega
              have m2 : ¬ (m + q ≤ 4096) := by omega
              clear hm m0
              go_wp2_with fail
              refine (kGet K1.out 0).mono ?_
              rintro r w7 hp
              obtain ⟨rfl, k2, -⟩ := hp.is (v' := .tuple #[.agg #[.int .i64 1, .string ⟨#[49]⟩, .int .i64 1, .int .i64 0, .int .i64 (q), .bool true, .bool false, .bool false], .int .i64 0]) (by rw [tO_get]; rfl) (stepD_no tO_get)
              have K2 : Hid (KV w (w7.alloc (.cells #[.int .i64 1, .string ⟨#[49]⟩, .int .i64 1, .int .i64 0, .int .i64 (q), .bool true, .bool false, .bool false] 26)) (w.heap.size + 3) 0 (fun _ => False) (2 + 2 * k + 1 + 1) (some (tO (q)))) := k2.later ((Below.refl _ _).alloc (Nat.le_refl _) _)
              clear k2 hp K1
              go_wp2
              go_roundw
              case rel => exact ⟨k + 1, q, by omega, by omega, by go_num, rfl, Hq, K2.out⟩
              case measure => simp [intOf]; omega
          · obtain ⟨rfl, k1, -⟩ := hp.is (v' := .int .i64 0) (by rw [(mv_ok hy hd).1]; rfl) (mv_ok hy hd).2
            have hmy : m + q = y := Hcs.out.2.1 hd
            subst hmy
            have K1 := Lib.hid k1
            have m1 : 0 ≤ m + q := by omega
            have m2 : m + q ≤ 4096 := by omega
            have Hz : Hid (0 ≤ m + q ∧ m + q ≤ 4096) := ⟨m1, m2⟩
            clear k1 hp Hcs hd hy z T
            go_wp2_with fail
            refine (kGet K1.out 0).mono ?_
            rintro r w7 hp
            obtain ⟨rfl, k2, -⟩ := hp.is (v' := .tuple #[.agg #[.int .i64 1, .string ⟨#[49]⟩, .int .i64 1, .int .i64 0, .int .i64 (m + q), .bool true, .bool false, .bool false], .int .i64 0]) (by rw [tO_get]; rfl) (stepD_no tO_get)
            have K2 : Hid (KV w (w7.alloc (.cells #[.int .i64 1, .string ⟨#[49]⟩, .int .i64 1, .int .i64 0, .int .i64 (m + q), .bool true, .bool false, .bool false] 26)) (w.heap.size + 3) 0 (fun _ => False) (2 + 2 * k + 1 + 1) (some (tO (m + q)))) := k2.later ((Below.refl _ _).alloc (Nat.le_refl _) _)
            clear k2 hp K1
            go_wp2
            go_roundw
            case rel => exact ⟨k + 1, m + q, by omega, by omega, by go_num, rfl, Hz, K2.out⟩
            case measure => simp [intOf]; omega
      · have HK := Lib.hid (known31_any wr (HU.out _ T.out.below))
        have HT := Lib.hid T.out.below
        clear T
        go_wp2_with fail
        refine HK.out.mono ?_
        rintro r w9 ⟨rfl, hb⟩
        have HF := Lib.hid (HT.out.trans (hb.mono HT.out.size))
        clear hb HK HT
        go_wp2
        go_ret
        exact ⟨rfl, HF.out⟩
    · have HK := Lib.hid (known31_any wr (HU.out _ T.out.below))
      have HT := Lib.hid T.out.below
      clear T
      go_wp2_with fail
      refine HK.out.mono ?_
      rintro r w9 ⟨rfl, hb⟩
      have HF := Lib.hid (HT.out.trans (hb.mono HT.out.size))
      clear hb HK HT
      go_wp2
      go_ret
      exact ⟨rfl, HF.out⟩
end Go.Proofs.YtfchfjipkggnkaaDoor
