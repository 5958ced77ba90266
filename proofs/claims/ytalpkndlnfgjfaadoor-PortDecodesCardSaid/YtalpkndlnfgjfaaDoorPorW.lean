/- PortDecodes: the walk. -/
import Derived.Test.YtalpkndlnfgjfaaDoorPorU
import Derived.Test.YtalpkndlnfgjfaaDoorPorT
namespace Go.Proofs.YtalpkndlnfgjfaaDoor
open Go.RowKit
attribute [local go_sem ↓] Go.wp_at_zero Go.wp_at_succ

theorem decQ_len (s : ByteArray) : (decQ s).1.queue.length ≤ 16 := by
  unfold decQ
  have h : (decQP s.data.toList).queue.length ≤ 16 := by
    have e : (decQP s.data.toList).queue = (rdPacks (q4 s.data.toList).1 (q4 s.data.toList).2).1 := rfl
    rw [e, rdPacks_length]
    exact rdNum_le 16 _
  generalize decQP s.data.toList = p at *
  generalize rdClose (q5 s.data.toList).2 = x at *
  generalize checkQ p = y at *
  split
  · exact Nat.zero_le _
  · split
    · exact Nat.zero_le _
    · exact h

set_option maxRecDepth 100000 in
set_option maxHeartbeats 1600000 in
theorem decodes_in (s sn : ByteArray) (w : World) (hsn : sn.size ≤ 2000) (hcut : ((2000 : Int) < (s.size : Int) ∧ s.extract 0 2000 = sn) ∨ (¬ (2000 : Int) < (s.size : Int) ∧ s = sn)) (hu : Usages w) :
    Calls Tryd.prog 4 #[.string s] w (TruePost w) := by
  have Hu := Lib.hid hu; clear hu
  have Hcan := Lib.hid (decQ_canon sn)
  have Hlen := Lib.hid (decQ_len sn)
  obtain ⟨ow, ep, lo, ls, dq, hd⟩ : ∃ ow ep lo ls dq, decQ sn = (⟨ow, ep, lo, ls⟩, dq) := ⟨_, _, _, _, _, rfl⟩
  have Hd := Lib.hid hd; clear hd
  rw [Hd.out] at Hcan Hlen
  have Hcut := Lib.hid hcut; clear hcut
  have hways : (2000 : Int) < (s.size : Int) ∨ ¬ (2000 : Int) < (s.size : Int) := Classical.em _
  rcases hways with hc | hc
  case' inl => obtain ewn := (Hcut.out.resolve_right (fun h => by omega)).2
  case' inr => obtain rfl := (Hcut.out.resolve_left (fun h => by omega)).2.symm
  all_goals
    go_enter Tryd.func4, Tryd.ntmps4
  case' inl => (go_wp2_with fail; (try rw [ewn]); clear ewn)
  case' inr => go_wp2_with fail
  all_goals
    clear Hcut hc
    refine (qDecode_any sn _ (by omega)).mono ?_
    rw [Hd.out]
    rintro e w1 ⟨a, n, c, rfl, hrow, -, hb⟩
    have HP1 := Lib.hid hrow.sl
    have HB1 := Lib.hid hb
    have HPa : Hid (∀ o, PSl (w1.alloc o) a n ls) := fun o => HP1.out.later ((Below.refl _ _).alloc (Nat.le_refl _) _)
    have HBa : Hid (∀ o, Below w.heap.size w (w1.alloc o)) := fun o => HB1.out.alloc HB1.out.size _
    have HXa : Hid (∀ o, (w1.alloc o).heap[w1.heap.size]? = some o) := fun o => heap_alloc_new w1 o
    clear hrow hb HP1 HB1
    dsimp only
    go_wp2_with fail
    refine (lDecode_any sn _ (by omega)).mono ?_
    rw [Hd.out]
    rintro e w2 ⟨a2, n2, c2, rfl, hrow, -, hb⟩
    have HP2 : Hid (∀ o, PSl (w2.alloc o) a n ls) := fun o => ((HPa.out _).later hb).later ((Below.refl _ _).alloc (Nat.le_refl _) _)
    have HQ2 : Hid (∀ o, PSl (w2.alloc o) a2 n2 ls) := fun o => hrow.sl.later ((Below.refl _ _).alloc (Nat.le_refl _) _)
    have HX2 : Hid (∀ o, (w2.alloc o).heap[w1.heap.size]? = some (.cells #[.string ow, .int .i64 ep, .int .i64 lo, .slice a n c] 25 (0, 0))) := fun o => (Below.heap_alloc w2 o _ (Nat.lt_of_lt_of_le (lt_of_heap (HXa.out (.cells #[] 0))) (by have := hb.size; simpa using this))).trans ((hb.block _ (lt_of_heap (HXa.out _))).trans (HXa.out _))
    have HY2 : Hid (∀ o, (w2.alloc o).heap[w2.heap.size]? = some o) := fun o => heap_alloc_new w2 o
    have HB2 : Hid (∀ o, Below w.heap.size w (w2.alloc o)) := fun o => ((HBa.out _).trans (hb.mono (HBa.out _).size)).alloc (Nat.le_trans (HBa.out (.cells #[] 0)).size (by have := hb.size; simpa using this)) _
    have hn : n ≤ 16 := by have h1 := (HPa.out (.cells #[] 0)).1; have h2 := Hlen.out; (try dsimp only at h2); omega
    have hn2 : n2 ≤ 16 := by have h1 := hrow.sl.1; have h2 := Hlen.out; (try dsimp only at h1 h2); omega
    clear hrow hb HPa HBa HXa
    dsimp only
    go_wp2_with fail
    refine (qKnown_any _ (Hu.out.below (HB2.out _) Hu.out.pos)).mono ?_
    rintro e w3 ⟨rfl, hb⟩
    have HP3 := Lib.hid ((HP2.out _).later hb)
    have HQ3 := Lib.hid ((HQ2.out _).later hb)
    have HX3 := Lib.hid ((hb.block _ (lt_of_heap (HX2.out _))).trans (HX2.out _))
    have HY3 := Lib.hid ((hb.block _ (lt_of_heap (HY2.out _))).trans (HY2.out _))
    have HB3 : Hid (Below w.heap.size w w3) := (HB2.out _).trans (hb.mono (HB2.out _).size)
    clear hb HP2 HQ2 HX2 HY2 HB2
    have x0 : w3.cell? ⟨w1.heap.size, 0, none⟩ = some (.string ow) := cell_of_heap HX3.out 0
    have x1 : w3.cell? ⟨w1.heap.size, 1, none⟩ = some (.int .i64 ep) := cell_of_heap HX3.out 1
    have x2 : w3.cell? ⟨w1.heap.size, 2, none⟩ = some (.int .i64 lo) := cell_of_heap HX3.out 2
    have x3 : w3.cell? ⟨w1.heap.size, 3, none⟩ = some (.slice a n c) := cell_of_heap HX3.out 3
    have y0 : w3.cell? ⟨w2.heap.size, 0, none⟩ = some (.string ow) := cell_of_heap HY3.out 0
    have y1 : w3.cell? ⟨w2.heap.size, 1, none⟩ = some (.int .i64 ep) := cell_of_heap HY3.out 1
    have y2 : w3.cell? ⟨w2.heap.size, 2, none⟩ = some (.int .i64 lo) := cell_of_heap HY3.out 2
    have y3 : w3.cell? ⟨w2.heap.size, 3, none⟩ = some (.slice a2 n2 c2) := cell_of_heap HY3.out 3
    go_wp2_with fail
    refine (qEqual_any ow ow ep lo ep lo a a2 n c n2 c2 ls ls _ HP3.out HQ3.out (by omega) (by omega)).mono ?_
    rw [show decide ((⟨ow, ep, lo, ls⟩ : PortT) = ⟨ow, ep, lo, ls⟩) = true from decide_eq_true rfl]
    rintro e w4 ⟨rfl, hb⟩
    have HP4 := Lib.hid (HP3.out.later hb)
    have HX4 := Lib.hid ((hb.block _ (lt_of_heap HX3.out)).trans HX3.out)
    have HB4 : Hid (Below w.heap.size w w4) := HB3.out.trans (hb.mono HB3.out.size)
    clear hb HP3 HQ3 HX3 HY3 HB3 x0 x1 x2 x3 y0 y1 y2 y3
    by_cases hq : dq = 0
    · subst hq
      obtain ⟨e1, e2, e3⟩ := Hcan.out rfl
      have E1 := Lib.hid e1
      have E2 := Lib.hid e2
      have e3 : ow.size ≤ 64 := e3
      clear e1 e2
      have x0 : w4.cell? ⟨w1.heap.size, 0, none⟩ = some (.string ow) := cell_of_heap HX4.out 0
      have x1 : w4.cell? ⟨w1.heap.size, 1, none⟩ = some (.int .i64 ep) := cell_of_heap HX4.out 1
      have x2 : w4.cell? ⟨w1.heap.size, 2, none⟩ = some (.int .i64 lo) := cell_of_heap HX4.out 2
      have x3 : w4.cell? ⟨w1.heap.size, 3, none⟩ = some (.slice a n c) := cell_of_heap HX4.out 3
      go_wp2_with fail
      refine (lEncode_any ow ep lo a n c ls _ HP4.out e3 E2.out).mono ?_
      rw [show strOf (encQB ⟨ow, ep, lo, ls⟩) = sn from E1.out]
      rintro e w5 ⟨rfl, hb⟩
      have HB5 : Hid (Below w.heap.size w w5) := HB4.out.trans (hb.mono HB4.out.size)
      clear hb
      go_wp2
      go_ret
      exact ⟨rfl, HB5.out⟩
    · have hq' : ((dq : Int) != 0) = true := bne_iff_ne.2 (by omega)
      clear hq
      go_wp2
      go_ret
      exact ⟨rfl, HB4.out⟩

theorem decodes_any (s : ByteArray) (w : World) (hu : Usages w) : Calls Tryd.prog 4 #[.string s] w (TruePost w) := by
  by_cases h : (2000 : Int) < (s.size : Int)
  · exact decodes_in s (s.extract 0 2000) w (by rw [ByteArray.size_extract]; omega) (.inl ⟨h, rfl⟩) hu
  · exact decodes_in s s w (by omega) (.inr ⟨h, rfl⟩) hu

end Go.Proofs.YtalpkndlnfgjfaaDoor
