/- DescriptorDecodes: the walk. (printed by wip/gen_dscdw.py) -/
import Derived.Test.YtfchfjipkggnkaaDoorDscU
import Derived.Test.YtfchfjipkggnkaaDoorDscCk
import Derived.Test.YtfchfjipkggnkaaDoorDscVa
import Derived.Test.YtfchfjipkggnkaaDoorDscQt
namespace Go.Proofs.YtfchfjipkggnkaaDoor
open Go.RowKit
attribute [local go_sem ↓] run_eql_opn run_neq_opn

set_option maxRecDepth 100000 in
set_option maxHeartbeats 3200000 in
theorem ddecodes_in (s sn : ByteArray) (w : World) (hn : sn.size ≤ 300) (hcut : ((300 : Int) < (s.size : Int) ∧ s.extract 0 300 = sn) ∨ (¬ (300 : Int) < (s.size : Int) ∧ s = sn)) (hu : Usages w) :
    Calls Tryd.prog 4 #[.string s] w fun r w' => r = .returned (.bool true) ∧ Below w.heap.size w w' := by
  have HU : Hid (∀ W, Below w.heap.size w W → Usages W) := fun W h => hu.below h hu.pos
  clear hu
  have Hn := Lib.hid hn; clear hn
  obtain ⟨⟨t, e⟩, hd⟩ : ∃ p, decD sn = p := ⟨_, rfl⟩
  have Hd := Lib.hid hd; clear hd
  have hl : t.length = 16 := by have := decD_len sn; rw [Hd.out] at this; exact this
  have Hl := Lib.hid hl; clear hl
  have Hcut := Lib.hid hcut; clear hcut
  have hways : (300 : Int) < (s.size : Int) ∨ ¬ (300 : Int) < (s.size : Int) := Classical.em _
  rcases hways with hc | hc
  case' inl => obtain ewn := (Hcut.out.resolve_right (fun h => by omega)).2
  case' inr => obtain rfl := (Hcut.out.resolve_left (fun h => by omega)).2.symm
  all_goals
    go_enter Tryd.func4, Tryd.ntmps4
  case' inl => (go_wp2_with fail; (try rw [ewn]); clear ewn)
  case' inr => go_wp2_with fail
  all_goals
    clear Hcut hc
    have hdec := dDecode_any sn w (Nat.le_trans Hn.out (by decide))
    unfold DecPost at hdec
    rw [Hd.out] at hdec
    have Hdec := Lib.hid hdec
    clear hdec
    refine Hdec.out.mono ?_
    rintro r w1 ⟨rfl, hb⟩
    have HB1 := Lib.hid hb
    have hns := new_store w1 Hl.out
    have hsz := tabA_128 Hl.out
    have hb2 : Below w1.heap.size w1 (w1.alloc (.cells (tabA t) 31)) := (Below.refl _ _).alloc (Nat.le_refl _) _
    have HB2 : Hid (Below w.heap.size w (w1.alloc (.cells (tabA t) 31))) := hb.trans (hb2.mono hb.size)
    have T2 := Lib.hid (new_tab w1 Hl.out)
    have HK := Lib.hid (known31_any _ (HU.out _ HB2.out))
    clear hb hb2 Hdec HB1
    go_wp2_with fail
    refine HK.out.mono ?_
    rintro r w2 ⟨rfl, hb⟩
    have HB3 : Hid (Below w.heap.size w w2) := HB2.out.trans (hb.mono HB2.out.size)
    have T3 := Lib.hid (T2.out.later hb)
    clear hb HB2 T2 HK hns hsz
    by_cases h0 : e = 0
    · subst h0
      have Hcan : Hid (strOf (encDB t) = sn ∧ tabE t = 0) := by
        have := ddec_canon sn (by rw [Hd.out])
        rw [Hd.out] at this
        exact this
      clear Hd
      go_wp2_with fail
      go_loopw [5] (fun iv wr => ∃ k : Nat, k ≤ 16 ∧ iv = .int .i64 k ∧ Hid (Below w.heap.size w wr) ∧ Hid (TabAt wr w1.heap.size t)) (fun iv _ => 16 - (intOf iv).toNat)
      case atStart => exact ⟨0, by omega, rfl, HB3.out, T3.out⟩
      case round =>
        obtain ⟨k, hk, rfl, HB, T⟩ := hrel
        clear HB3 T3
        by_cases h5 : k < 16
        · obtain ⟨x, hx⟩ := ent_some Hl.out h5
          have Hok : Hid (isZ x = false → checkO x = 0) := tabE_mem Hcan.out.2 x (List.mem_of_getElem? hx)
          obtain ⟨kd, mak, bn, num, off, rd, wr_, ap⟩ := x
          have z0 : wr.cell? ⟨w1.heap.size, k * 8, none⟩ = some (.int .i64 kd) := T.out.cell hx (j := 0) rfl
          have z1 : wr.cell? ⟨w1.heap.size, k * 8 + 1, none⟩ = some (.string mak) := T.out.cell hx (j := 1) rfl
          have z2 : wr.cell? ⟨w1.heap.size, k * 8 + 2, none⟩ = some (.int .i64 bn) := T.out.cell hx (j := 2) rfl
          have z3 : wr.cell? ⟨w1.heap.size, k * 8 + 3, none⟩ = some (.int .i64 num) := T.out.cell hx (j := 3) rfl
          have z4 : wr.cell? ⟨w1.heap.size, k * 8 + 4, none⟩ = some (.int .i64 off) := T.out.cell hx (j := 4) rfl
          have z5 : wr.cell? ⟨w1.heap.size, k * 8 + 5, none⟩ = some (.bool rd) := T.out.cell hx (j := 5) rfl
          have z6 : wr.cell? ⟨w1.heap.size, k * 8 + 6, none⟩ = some (.bool wr_) := T.out.cell hx (j := 6) rfl
          have z7 : wr.cell? ⟨w1.heap.size, k * 8 + 7, none⟩ = some (.bool ap) := T.out.cell hx (j := 7) rfl
          have i0 : (0 : Int) ≤ (k : Int) := by omega
          have i1 : (k : Int) < 16 := by omega
          clear hx
          cases hz : isZ ⟨kd, mak, bn, num, off, rd, wr_, ap⟩ with
          | true =>
            have hz2 : sameO ⟨kd, mak, bn, num, off, rd, wr_, ap⟩ ⟨0, ⟨#[]⟩, 0, 0, 0, false, false, false⟩ = true := hz
            clear hz
            go_wp2
            go_roundw
            case rel => exact ⟨k + 1, by omega, by go_num, HB.out, T.out⟩
            case measure => simp [intOf]; omega
          | false =>
            have hz2 : sameO ⟨kd, mak, bn, num, off, rd, wr_, ap⟩ ⟨0, ⟨#[]⟩, 0, 0, 0, false, false, false⟩ = false := hz
            have Hc := Lib.hid (Hok.out hz)
            have Hmk : Hid (mak.size ≤ 70368744177664) := Nat.le_trans (checkO_ok Hc.out).mak (by decide)
            clear hz Hok
            go_wp2_with fail
            refine (check31_is kd mak bn num off rd wr_ ap 0 Hc.out _ Hmk.out).mono ?_
            rintro r w3 ⟨rfl, hb⟩
            have HB4 : Hid (Below w.heap.size w w3) := HB.out.trans (hb.mono HB.out.size)
            have T4 := Lib.hid (T.out.later hb)
            clear hb z0 z1 z2 z3 z4 z5 z6 z7 HB T Hc
            go_wp2
            go_roundw
            case rel => exact ⟨k + 1, by omega, by go_num, HB4.out, T4.out⟩
            case measure => simp [intOf]; omega
        · obtain rfl : k = 16 := by omega
          have HV := Lib.hid (value31_any t Hl.out Hcan.out.2 wr)
          go_wp2
          refine wp_load_tab _ (by rfl) w1.heap.size (by rfl) T.out ?_
          go_wp2_with fail
          refine HV.out.mono ?_
          rintro r w3 ⟨rfl, hb⟩
          have HF : Hid (Below w.heap.size w w3) := HB.out.trans (hb.mono HB.out.size)
          clear hb HV HB T
          rw [Hcan.out.1]
          go_wp2
          go_ret
          exact ⟨by simp, HF.out⟩
    · have hde := decD_err sn (by rw [Hd.out]; exact h0)
      rw [Hd.out] at hde
      obtain ⟨rfl, rfl⟩ := Prod.mk.inj hde
      have heq : ∀ W : World, (binOp .eql 31 (.agg (tabA zeroTab)) (.agg Tryd.zeroCells31)).run Tryd.prog W = .ok (.bool true) W := fun W => by
        rw [zero_tab, run_eql_tab W zeroTab_len zeroTab_len]
        rfl
      clear h0 hde Hd
      go_wp2
      refine wp_load_tab _ (by rfl) w1.heap.size (by rfl) T3.out ?_
      go_wp2
      go_ret
      exact ⟨rfl, HB3.out⟩
theorem ddecodes_any (s : ByteArray) (w : World) (hu : Usages w) : Calls Tryd.prog 4 #[.string s] w fun r w' => r = .returned (.bool true) ∧ Below w.heap.size w w' := by
  by_cases h : (300 : Int) < (s.size : Int)
  · exact ddecodes_in s (s.extract 0 300) w (by rw [ByteArray.size_extract]; omega) (.inl ⟨h, rfl⟩) hu
  · exact ddecodes_in s s w (by omega) (.inr ⟨h, rfl⟩) hu
end Go.Proofs.YtfchfjipkggnkaaDoor
