/- law 08: GraphPaths. (printed by wip/gen_gmlp.py) -/
import Derived.Test.YteiddebjbiadbaaGmLs
import Derived.Test.YteiddebjbiadbaaGmRp
namespace Go.Proofs.Yteiddebjbiadbaa
open Go.RowKit Gr
attribute [local go_sem ↓] Go.wp_at_zero Go.wp_at_succ

/-- What Path answers. -/
def pathR (n : Nat) (es : List Ed) (f t : Int) : Bool × List Nat :=
  if (nodeB n f && nodeB n t) = true then (if at_ (farF es n t.toNat) f.toNat < 0 then (false, []) else (true, pathF (aft es) (farF es n t.toNat) t.toNat (at_ (farF es n t.toNat) f.toNat).toNat f.toNat)) else (false, [])
def PRPost (w : World) (bq : Bool) (l : List Nat) (r : Ending) (w' : World) : Prop := Below w.heap.size w w' ∧ ∃ v, r = .returned (.tuple #[v, .bool bq]) ∧ RowK kNat w' v l
theorem path_r {w : World} {n p : Nat} {es : List Ed} (h : GOk w p n (aft es) (bef es)) (hin : Ins n es) (f t : Int) : Calls Try.prog 13 #[.pointer (some ⟨p, 0, none⟩), .int .i64 f, .int .i64 t] w (PRPost w (pathR n es f t).1 (pathR n es f t).2) := by
  refine (path_any h (es_ges_of hin) f t).mono ?_
  rintro r w' ⟨hb, q⟩
  refine ⟨hb, ?_⟩
  unfold pathR
  rcases q with ⟨q, rfl⟩ | ⟨a, b, rfl, rfl, ha, hb', q⟩
  · rw [if_neg (by rw [q]; decide)]; exact ⟨_, rfl, RowK.nil _⟩
  · have h1 : (nodeB n (a : Int) && nodeB n (b : Int)) = true := by rw [Bool.and_eq_true]; exact ⟨nodeB_iff.2 (by omega), nodeB_iff.2 (by omega)⟩
    rw [if_pos h1, Int.toNat_natCast, Int.toNat_natCast]
    rw [left_far (fun _ _ => mem_bef) hin hb'] at q
    rcases q with ⟨q, rfl⟩ | ⟨q, v, rfl, ho⟩
    · rw [if_pos q]; exact ⟨_, rfl, RowK.nil _⟩
    · rw [if_neg (by omega)]; exact ⟨_, rfl, ho.row⟩
theorem rpath_r {w : World} {n : Nat} {v : Value} {es : List Ed} (h : RowK kE w v (es.map ofEd)) (hl : es.length ≤ 65536) (hin : Ins n es) (hn : n ≤ 4096) (f t : Int) : Calls Try.prog 14 #[.agg #[.int .i64 (n : Int), v], .int .i64 f, .int .i64 t] w (PRPost w (pathR n es f t).1 (pathR n es f t).2) := by
  refine (rPath_any h hl hin hn f t).mono ?_
  rintro r w' ⟨hb, q⟩
  refine ⟨hb, ?_⟩
  unfold pathR
  rcases q with ⟨q, rfl⟩ | ⟨a, b, rfl, rfl, ha, hb', q⟩
  · rw [if_neg (by rw [q]; decide)]; exact ⟨_, rfl, RowK.nil _⟩
  · have h1 : (nodeB n (a : Int) && nodeB n (b : Int)) = true := by rw [Bool.and_eq_true]; exact ⟨nodeB_iff.2 (by omega), nodeB_iff.2 (by omega)⟩
    rw [if_pos h1, Int.toNat_natCast, Int.toNat_natCast]
    rcases q with ⟨q, rfl⟩ | ⟨q, v, rfl, ho⟩
    · rw [if_pos q]; exact ⟨_, rfl, RowK.nil _⟩
    · rw [if_neg (by omega)]; exact ⟨_, rfl, ho.row⟩
theorem pathR_len {n : Nat} {es : List Ed} (hin : Ins n es) (f t : Int) : (pathR n es f t).2.length ≤ n := by
  unfold pathR
  split
  · rename_i h
    rw [Bool.and_eq_true] at h
    have h2 := nodeB_iff.1 h.2
    split
    · exact Nat.zero_le _
    · rename_i hq
      have hD := far_ok hin (t := t.toNat) (by omega)
      obtain ⟨k, hk⟩ := Int.eq_ofNat_of_zero_le (by omega : 0 ≤ at_ (farF es n t.toNat) f.toNat)
      have hp := path_ok hD k f.toNat hk
      rw [hk, Int.toNat_natCast]
      show (pathF (aft es) (farF es n t.toNat) t.toNat k f.toNat).length ≤ n
      rw [hp.len]
      have := hD.lt hk
      omega
  · exact Nat.zero_le _
set_option linter.unusedSimpArgs false in
set_option maxHeartbeats 1600000 in
theorem lawPaths_any {w : World} {m : Nat} {v : Value} {l : List (Int × Int)} (h : RowK kE w v l) (hl : l.length ≤ 9223372036854775807) (hm : m ≤ 255) (e0 e1 : Int) :
    Calls Try.prog 3 #[.int .u8 (m : Int), v, .agg #[.int .i64 e0, .int .i64 e1]] w (TruePost w) := by
  obtain ⟨av, cv, rfl, -⟩ := h.form
  obtain ⟨x1, hx1⟩ : ∃ x1, w.alloc (.cells #[.int .i64 e0, .int .i64 e1] 23) = x1 := ⟨_, rfl⟩
  have HBx : Hid (Below w.heap.size w x1) := by rw [← hx1]; exact (Below.refl _ _).alloc (Nat.le_refl _) _
  have HRx : Hid (RowIs x1 w.heap.size 23 [.int .i64 e0, .int .i64 e1]) := by rw [← hx1]; exact new_row _ _ _
  have Hm := Lib.hid hm
  have Hl := Lib.hid hl
  have H := Lib.hid h
  clear h
  go_enter Try.func3, Try.ntmps3
  go_upto_region 1 with fail
  clear hx1
  obtain ⟨s, hs⟩ : ∃ s, w.heap.size = s := ⟨_, rfl⟩
  rw [hs] at HRx ⊢
  clear hs
  go_wp2_with fail
  refine (known_any _).mono ?_
  rintro r x2 ⟨rfl, hb2⟩
  have HB2 : Hid (Below w.heap.size w x2) := HBx.out.trans (hb2.mono HBx.out.size)
  have HR2 := Lib.hid (HRx.out.later hb2)
  clear hb2
  have HK := Lib.hid (make_any (H.out.later HB2.out) Hl.out Hm.out)
  go_wp2_with fail
  refine HK.out.mono ?_
  rintro r x3 ⟨hb3, n, p, vg, es, rfl, hn1, hn30, hes, hnm, hin, hG, hO, hp⟩
  have HB3 : Hid (Below w.heap.size w x3) := HB2.out.trans (hb3.mono HB2.out.size)
  have HR3 := Lib.hid (HR2.out.later hb3)
  have Hn : Hid (1 ≤ n ∧ n ≤ 30 ∧ es.length ≤ 120) := ⟨hn1, hn30, hes⟩
  have Hin := Lib.hid hin
  have Hnm := Lib.hid hnm
  have HG := Lib.hid hG
  obtain ⟨ga, gc, egv, -⟩ := hO.row.form
  obtain ⟨gm, hgm⟩ : ∃ m, (es.map ofEd).length = m := ⟨_, rfl⟩
  rw [hgm] at egv
  subst egv
  have HO := Lib.hid hO
  clear hgm hb3 hn1 hn30 hes hnm hin hG hO hp HK
  go_upto_region 4 with fail
  obtain ⟨y0, hy0⟩ : ∃ y, x3.alloc (.cells #[.int .i64 (n : Int), .slice ga gm gc] 27) = y := ⟨_, rfl⟩
  have hb4 : Below x3.heap.size x3 y0 := by rw [← hy0]; exact (Below.refl _ _).alloc (Nat.le_refl _) _
  have HT : Hid (RowIs y0 x3.heap.size 27 [.int .i64 (n : Int), .slice ga gm gc]) := by rw [← hy0]; exact new_row _ _ _
  rw [hy0]
  have HBy : Hid (Below w.heap.size w y0) := HB3.out.trans (hb4.mono HB3.out.size)
  have HRy := Lib.hid (HR3.out.later hb4)
  have HGy := Lib.hid (HG.out.later hb4)
  have HOy := Lib.hid (HO.out.later hb4)
  clear hy0 hb4 HG HO HB3 HB2 HBx HR3 HR2 HRx
  obtain ⟨t, ht⟩ : ∃ t, x3.heap.size = t := ⟨_, rfl⟩
  rw [ht] at HT ⊢
  clear ht
  have HP : Hid (∀ (f t : Int) (W : World), Below y0.heap.size y0 W → Calls Try.prog 13 #[.pointer (some ⟨p, 0, none⟩), .int .i64 f, .int .i64 t] W (PRPost W (pathR n es f t).1 (pathR n es f t).2)) :=
    fun f t W hW => path_r (HGy.out.later hW) Hin.out f t
  have HQ : Hid (∀ (f t : Int) (W : World), Below y0.heap.size y0 W → Calls Try.prog 14 #[.agg #[.int .i64 (n : Int), .slice ga gm gc], .int .i64 f, .int .i64 t] W (PRPost W (pathR n es f t).1 (pathR n es f t).2)) :=
    fun f t W hW => rpath_r (HOy.out.row.later hW) (by have := Hn.out; omega) Hin.out (by have := Hn.out; omega) f t
  have HLn : Hid (∀ f t : Int, (pathR n es f t).2.length ≤ 100000) := fun f t => by have := pathR_len Hin.out f t; have := Hn.out; omega
  have c0 := HRy.out.cell (i := 0) rfl
  have c1 := HRy.out.cell (i := 1) rfl
  go_wp2_with fail
  refine (HP.out e0 e1 _ (Below.refl _ _)).mono ?_
  rintro r z1 ⟨hz1, u1, rfl, hr1⟩
  have HZ1 : Hid (Below y0.heap.size y0 z1) := hz1
  have c0 := cellL c0 hz1
  have c1 := cellL c1 hz1
  have HR1 := Lib.hid hr1
  have d0 := cellL (HT.out.cell (i := 0) rfl) hz1
  have d1 := cellL (HT.out.cell (i := 1) rfl) hz1
  clear hz1 hr1
  go_wp2_with fail
  refine (HQ.out e0 e1 _ HZ1.out).mono ?_
  rintro r z2 ⟨hz2, u2, rfl, hr2⟩
  have HZ2 : Hid (Below y0.heap.size y0 z2) := HZ1.out.trans (hz2.mono HZ1.out.size)
  have HS := Lib.hid (same_eq (HR1.out.later hz2) hr2 (HLn.out e0 e1))
  obtain ⟨bq, hbq⟩ : ∃ b, (pathR n es e0 e1).1 = b := ⟨_, rfl⟩
  rw [hbq]
  clear hbq hz2 hr2 HR1 HZ1 c0 c1 d0 d1
  have hbb : (bq != bq) = false := by cases bq <;> rfl
  go_wp2_with fail
  refine HS.out.mono ?_
  rintro r z3 ⟨rfl, hz3⟩
  have HZ3 : Hid (Below y0.heap.size y0 z3) := HZ2.out.trans (hz3.mono HZ2.out.size)
  clear hz3 HS HZ2 hbb
  go_wp2
  go_loopg [13] n (fun gk iv wr => ∃ a : Nat, Hid (a + gk = n) ∧ iv = .int .i64 a ∧ Hid (Below y0.heap.size y0 wr))
  case atStart => exact ⟨0, Nat.zero_add _, rfl, HZ3.out⟩
  case round =>
    clear HZ3
    obtain ⟨a, Ha, rfl, HB⟩ := hrel
    have d0 := cellL (HT.out.cell (i := 0) rfl) HB.out
    by_cases hlt : a < n
    · have hai : (a : Int) < (n : Int) := by omega
      have has : a ≤ 30 := by have := Hn.out; omega
      have Hlt := Lib.hid hlt
      clear hlt
      go_wp2_with fail
      refine (HP.out (a : Int) 0 _ HB.out).mono ?_
      rintro r z1 ⟨hz1, u1, rfl, hr1⟩
      have HZ1 : Hid (Below y0.heap.size y0 z1) := HB.out.trans (hz1.mono HB.out.size)
      have HR1 := Lib.hid hr1
      have d0 := cellL (HT.out.cell (i := 0) rfl) HZ1.out
      have d1 := cellL (HT.out.cell (i := 1) rfl) HZ1.out
      clear hz1 hr1
      go_wp2_with fail
      refine (HQ.out (a : Int) 0 _ HZ1.out).mono ?_
      rintro r z2 ⟨hz2, u2, rfl, hr2⟩
      have HZ2 : Hid (Below y0.heap.size y0 z2) := HZ1.out.trans (hz2.mono HZ1.out.size)
      have HS := Lib.hid (same_eq (HR1.out.later hz2) hr2 (HLn.out (a : Int) 0))
      obtain ⟨bq, hbq⟩ : ∃ b, (pathR n es (a : Int) 0).1 = b := ⟨_, rfl⟩
      rw [hbq]
      clear hbq hz2 hr2 HR1 HZ1 d0 d1
      have hbb : (bq != bq) = false := by cases bq <;> rfl
      go_wp2_with fail
      refine HS.out.mono ?_
      rintro r z3 ⟨rfl, hz3⟩
      have HZ3 : Hid (Below y0.heap.size y0 z3) := HZ2.out.trans (hz3.mono HZ2.out.size)
      clear hz3 HS HZ2 hbb
      go_wp2
      go_roundg (n - (a + 1))
      case measure => have := Ha.out; have := Hlt.out; omega
      case rel => exact ⟨a + 1, by have := Ha.out; have := Hlt.out; show _ = _; omega, by go_num, HZ3⟩
    · have hai : ¬ (a : Int) < (n : Int) := by omega
      go_wp2
      go_ret
      exact ⟨rfl, HBy.out.trans (HB.out.mono HBy.out.size)⟩
end Go.Proofs.Yteiddebjbiadbaa
