/- PortBroken: the walk. -/
import Derived.Test.YtemmeopaihmlcaaDoorPbrA
import Derived.Test.YtemmeopaihmlcaaDoorPorN
import Derived.Test.YtemmeopaihmlcaaDoorPorU
import Derived.Test.YtemmeopaihmlcaaDoorTrue
namespace Go.Proofs.YtemmeopaihmlcaaDoor
open Go.RowKit
attribute [local go_sem ↓] Go.wp_at_zero Go.wp_at_succ

theorem pb_ep (ep : Int) : 0 ≤ wrap64 ((IntKind.u64.wrap ep).tmod 4) ∧ wrap64 ((IntKind.u64.wrap ep).tmod 4) ≤ 3 := by
  have hw : 0 ≤ IntKind.u64.wrap ep := by
    simp [IntKind.wrap, IntKind.bits, IntKind.signed]
    omega
  generalize IntKind.u64.wrap ep = u at hw
  rw [Int.tmod_eq_emod_of_nonneg hw]
  unfold wrap64
  omega
set_option maxRecDepth 100000 in
set_option maxHeartbeats 6400000 in
theorem broken_in (s0 s : ByteArray) (ep : Int) (w : World) (hs : s.size ≤ 300)
    (hcut : ((300 : Int) < (s0.size : Int) ∧ s0.extract 0 300 = s) ∨ (¬ (300 : Int) < (s0.size : Int) ∧ s0 = s)) (hu : Usages w) :
    Calls Tryd.prog 5 #[.string s0, .int .i64 ep] w (TruePost w) := by
  have Hu := Lib.hid hu; clear hu
  have Hs := Lib.hid hs; clear hs
  have Hcut := Lib.hid hcut; clear hcut
  go_enter Tryd.func5, Tryd.ntmps5
  have hways : (300 : Int) < (s0.size : Int) ∨ ¬ (300 : Int) < (s0.size : Int) := Classical.em _
  rcases hways with hc | hc
  case' inl => obtain ewn := (Hcut.out.resolve_right (fun h => by omega)).2
  case' inr => obtain rfl := (Hcut.out.resolve_left (fun h => by omega)).2.symm
  case' inl => (go_wp2_with fail; (try rw [ewn]); clear ewn)
  case' inr => go_wp2_with fail
  all_goals
    clear Hcut hc
    refine (stateNew_any w).mono ?_
    rintro e w2 ⟨rfl, rfl⟩
    have Hbn := Lib.hid (baseN_empty w)
    have HB2 : Hid (Below w.heap.size w (w.alloc (.cells #[.pointer none] 68))) := (Below.refl _ _).alloc (Nat.le_refl _) _
    obtain ⟨w2, hw2⟩ : ∃ w2, w2 = w.alloc (.cells #[.pointer none] 68) := ⟨_, rfl⟩
    rw [← hw2] at Hbn HB2 ⊢
    clear hw2
    go_wp2_with fail
    refine (ofPort_any _ w2).mono ?_
    rintro e w4 ⟨rfl, hb4⟩
    have Hbn4 := Lib.hid (Hbn.out.later hb4)
    have HB4 : Hid (Below w.heap.size w w4) := HB2.out.trans (hb4.mono HB2.out.size)
    clear hb4 Hbn HB2
    go_wp2_with fail
    refine (baseWith (n := ofPortN 200) (Hu.out.below HB4.out Hu.out.pos) Hbn4.out (by decide) (nameOk_port 200 (by decide) (by decide)) (by have := Hs.out; omega)).mono ?_
    rintro e w5 ⟨sp5, rfl, hb5, hbn5⟩
    have Hbn5 := Lib.hid hbn5.ok
    have HB5 : Hid (Below w.heap.size w w5) := HB4.out.trans (hb5.mono HB4.out.size)
    clear hb5 hbn5 Hbn4 HB4
    go_wp2_with fail
    refine (qKnown_any _ (Hu.out.below HB5.out Hu.out.pos)).mono ?_
    rintro e w6 ⟨rfl, hb6⟩
    have Hbn6 := Lib.hid (Hbn5.out.later hb6)
    have HB6 : Hid (Below w.heap.size w w6) := HB5.out.trans (hb6.mono HB5.out.size)
    have HL6 : Hid (w5.heap.size ≤ w6.heap.size) := hb6.size
    clear hb6 Hbn5 HB5
    go_upto_region 6 with fail
  all_goals
    have hep := pb_ep ep
    generalize hE : wrap64 ((IntKind.u64.wrap ep).tmod 4) = e0 at *
    clear hE
    generalize IntKind.u64.wrap ep = u0
    generalize u0.tmod 4 = u1
    have Hep := Lib.hid hep; clear hep
    have Hways := Lib.hid (pb_ways s e0 Hep.out)
    have hdec := lDecode_any s w6 (by have := Hs.out; omega)
    obtain ⟨⟨⟨ow, pe, lo, ls⟩, f⟩, hd⟩ : ∃ x, decQ s = x := ⟨_, rfl⟩
    rw [hd] at hdec Hways
    clear hd
    have Hdec := Lib.hid hdec; clear hdec
    go_wp2_with fail
    refine Hdec.out.mono ?_
    rintro e w7 ⟨a, n, c, rfl, -, -, hb7⟩
    dsimp only
    have Hbn7 := Lib.hid (Hbn6.out.later (hb7.mono HL6.out))
    have HB7 : Hid (Below w.heap.size w w7) := HB6.out.trans (hb7.mono HB6.out.size)
    have HL7 : Hid (w5.heap.size ≤ w7.heap.size) := Nat.le_trans HL6.out hb7.size
    clear hb7 Hbn6 HB6 HL6 Hdec
    go_upto_region 8 with fail
    have HA8 : Hid (Below w7.heap.size w7 (w7.alloc (.cells #[.string ow, .int .i64 pe, .int .i64 lo, .slice a n c] 54))) := (Below.refl _ _).alloc (Nat.le_refl _) _
    have HT8 : Hid ((w7.alloc (.cells #[.string ow, .int .i64 pe, .int .i64 lo, .slice a n c] 54)).heap[w7.heap.size]? = some (.cells #[.string ow, .int .i64 pe, .int .i64 lo, .slice a n c] 54 (0, 0))) := World.alloc_heap_new w7 _
    generalize w7.alloc (.cells #[.string ow, .int .i64 pe, .int .i64 lo, .slice a n c] 54) = w8 at *
    have t1 : w8.cell? ⟨w7.heap.size, 1, none⟩ = some (.int .i64 pe) := cell_of_heap HT8.out 1
    have Hbn8 := Lib.hid (Hbn7.out.later (HA8.out.mono HL7.out))
    have HB8 : Hid (Below w.heap.size w w8) := HB7.out.trans (HA8.out.mono HB7.out.size)
    have HL8 : Hid (w5.heap.size ≤ w8.heap.size) := Nat.le_trans HL7.out HA8.out.size
    clear HA8 HT8 Hbn7 HB7 HL7
    generalize w7.heap.size = T at *
    have hw3 := Hways.out
    clear Hways
    rcases hw3 with ⟨rfl, rfl, p, hq, o', hst⟩ | ⟨rfl, hne, p, hq, o', hst⟩ | ⟨hf, p, hq, o', hst⟩
    case' inr.inl => have hne' : (pe == e0) = false := beq_eq_false_iff_ne.2 hne
    case' inr.inl => clear hne
    case' inr.inr => have hf' : ((f : Int) == 0) = false := beq_eq_false_iff_ne.2 (by omega)
    case' inr.inr => clear hf
  all_goals
    have Hq := Lib.hid hq; clear hq
    have Hst := Lib.hid hst; clear hst
    go_wp2_with fail
    refine (pb_new w8 (Hu.out.below HB8.out Hu.out.pos) sp5 s (by have := Hs.out; omega) (baseOk_up Hbn8.out HL8.out)).mono ?_
    rintro e w9 ⟨rfl, s9⟩
    have S9 := Lib.hid s9; clear s9
    go_wp2_with fail
    refine (sqGet w8 w9 _ 0 200 _ _ S9.out _ (by decide) (decide_eq_true (by have := Hep.out; omega)) p _ Hq.out).mono ?_
    rintro e w10 ⟨a2, n2, c2, rfl, -, -, s10, -⟩
    have Hbn10 := Lib.hid (Hbn8.out.later (s10.below.mono HL8.out))
    have HB10 : Hid (Below w.heap.size w w10) := HB8.out.trans (s10.below.mono HB8.out.size)
    have HL10 : Hid (w5.heap.size ≤ w10.heap.size) := Nat.le_trans HL8.out s10.below.size
    clear s10 S9 Hq Hbn8 HB8 HL8 t1
    go_upto_region 11 with fail
    have HA11 : Hid (Below w10.heap.size w10 (w10.alloc (.cells #[.string p.owner, .int .i64 p.epoch, .int .i64 p.lost, .slice a2 n2 c2] 54))) := (Below.refl _ _).alloc (Nat.le_refl _) _
    generalize w10.alloc (.cells #[.string p.owner, .int .i64 p.epoch, .int .i64 p.lost, .slice a2 n2 c2] 54) = w11 at *
    have Hbn11 := Lib.hid (Hbn10.out.later (HA11.out.mono HL10.out))
    have HB11 : Hid (Below w.heap.size w w11) := HB10.out.trans (HA11.out.mono HB10.out.size)
    have HL11 : Hid (w5.heap.size ≤ w11.heap.size) := Nat.le_trans HL10.out HA11.out.size
    clear HA11 Hbn10 HB10 HL10
    go_wp2_with fail
    refine (pb_new w11 (Hu.out.below HB11.out Hu.out.pos) sp5 s (by have := Hs.out; omega) (baseOk_up Hbn11.out HL11.out)).mono ?_
    rintro e w12 ⟨rfl, s12⟩
    have S12 := Lib.hid s12; clear s12
    go_wp2_with fail
    refine (sqOpen w11 w12 _ 0 200 _ _ S12.out (by decide) ⟨#[49]⟩ 3 _ (by decide) o' _ _ Hst.out).mono ?_
    rintro e w13 ⟨rfl, s13, -⟩
    have HE : Hid (Below w.heap.size w w13) := HB11.out.trans (s13.below.mono HB11.out.size)
    clear s13 S12 Hst Hbn11 HB11 HL11
    go_wp2
    go_ret
    exact ⟨rfl, HE.out⟩

theorem broken_any (s : ByteArray) (ep : Int) (w : World) (hu : Usages w) : Calls Tryd.prog 5 #[.string s, .int .i64 ep] w (TruePost w) := by
  by_cases h : (300 : Int) < (s.size : Int)
  · exact broken_in s (s.extract 0 300) ep w (by rw [ByteArray.size_extract]; omega) (.inl ⟨h, rfl⟩) hu
  · exact broken_in s s ep w (by omega) (.inr ⟨h, rfl⟩) hu
end Go.Proofs.YtemmeopaihmlcaaDoor
