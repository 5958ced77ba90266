/- SignalDecodes, SignalChecks: the walks. -/
import Derived.Test.YtmknhokjpmjkkaaDoorSigN
import Derived.Test.YtmknhokjpmjkkaaDoorSigE
namespace Go.Proofs.YtmknhokjpmjkkaaDoor
open Go.RowKit
attribute [local go_sem ↓] Go.wp_at_zero Go.wp_at_succ
attribute [local go_sem ↓] run_eql_rec run_neq_rec

theorem sameRB_refl (r : RecT) : sameRB r r = true := decide_eq_true rfl
theorem strOf_bytes (s : ByteArray) : strOf s.data.toList = s := by
  obtain ⟨⟨l⟩⟩ := s
  rfl
set_option maxRecDepth 100000 in
set_option maxHeartbeats 1600000 in
theorem sdecodes_in (s sn : ByteArray) (w : World) (hsn : sn.size ≤ 100) (hcut : ((100 : Int) < (s.size : Int) ∧ s.extract 0 100 = sn) ∨ (¬ (100 : Int) < (s.size : Int) ∧ s = sn)) (hu : Usages w) :
    Calls Tryd.prog 5 #[.string s] w (TruePost w) := by
  have Hu := Lib.hid hu; clear hu
  have Hcan : Hid (∀ r, decR sn = (r, 0) → checkR r = 0 ∧ encRB r = sn.data.toList) := fun r h => decR_canon h
  obtain ⟨⟨⟨p, bl, i, h0, h1, h2, h3, h4, h5, h6, h7⟩, dq⟩, hd⟩ : ∃ x, decR sn = x := ⟨_, rfl⟩
  have Hd := Lib.hid hd; clear hd
  rw [Hd.out] at Hcan
  have Hcut := Lib.hid hcut; clear hcut
  have hsame := sameRB_refl ⟨p, bl, i, h0, h1, h2, h3, h4, h5, h6, h7⟩
  have hways : (100 : Int) < (s.size : Int) ∨ ¬ (100 : Int) < (s.size : Int) := Classical.em _
  rcases hways with hc | hc
  case' inl => obtain ewn := (Hcut.out.resolve_right (fun h => by omega)).2
  case' inr => obtain rfl := (Hcut.out.resolve_left (fun h => by omega)).2.symm
  all_goals
    go_enter Tryd.func5, Tryd.ntmps5
  case' inl => (go_wp2_with fail; (try rw [ewn]); clear ewn)
  case' inr => go_wp2_with fail
  all_goals
    clear Hcut hc
    refine (rDecode_any sn _ (by omega)).mono ?_
    rw [Hd.out]
    rintro e w1 ⟨rfl, hb⟩
    have HBa : Hid (∀ o, Below w.heap.size w (w1.alloc o)) := fun o => hb.alloc hb.size _
    have HXa : Hid (∀ o, (w1.alloc o).heap[w1.heap.size]? = some o) := fun o => heap_alloc_new w1 o
    clear hb
    dsimp only [recV, rCells]
    go_wp2_with fail
    refine (lDecodeR_any sn _ (by omega)).mono ?_
    rw [Hd.out]
    rintro e w2 ⟨rfl, hb⟩
    have HX2 : Hid (∀ o, (w2.alloc o).heap[w1.heap.size]? = some (.cells (rCells ⟨p, bl, i, h0, h1, h2, h3, h4, h5, h6, h7⟩) 42 (0, 0))) := fun o => (Below.heap_alloc w2 o _ (Nat.lt_of_lt_of_le (lt_of_heap (HXa.out (.cells #[] 0))) (by have := hb.size; simpa using this))).trans ((hb.block _ (lt_of_heap (HXa.out _))).trans (HXa.out _))
    have HY2 : Hid (∀ o, (w2.alloc o).heap[w2.heap.size]? = some o) := fun o => heap_alloc_new w2 o
    have HB2 : Hid (∀ o, Below w.heap.size w (w2.alloc o)) := fun o => ((HBa.out _).trans (hb.mono (HBa.out _).size)).alloc (Nat.le_trans (HBa.out (.cells #[] 0)).size (by have := hb.size; simpa using this)) _
    clear hb HBa HXa
    dsimp only [recV, rCells]
    go_wp2_with fail
    refine (known33 _ (Hu.out.below (HB2.out _) Hu.out.pos)).mono ?_
    rintro e w3 ⟨rfl, hb⟩
    have hX3 := (hb.block _ (lt_of_heap (HX2.out _))).trans (HX2.out _)
    have hY3 : w3.heap[w2.heap.size]? = some (.cells (rCells ⟨p, bl, i, h0, h1, h2, h3, h4, h5, h6, h7⟩) 42 (0, 0)) := (hb.block _ (lt_of_heap (HY2.out _))).trans (HY2.out _)
    have HB3 : Hid (Below w.heap.size w w3) := (HB2.out _).trans (hb.mono (HB2.out _).size)
    clear hb HX2 HY2 HB2
    obtain ⟨c0, c1, c2, c3, c4, c5, c6, c7, c8, c9, c10⟩ := at11 hX3
    obtain ⟨d0, d1, d2, d3, d4, d5, d6, d7, d8, d9, d10⟩ := at11 hY3
    dsimp only at c0 c1 c2 c3 c4 c5 c6 c7 c8 c9 c10 d0 d1 d2 d3 d4 d5 d6 d7 d8 d9 d10
    clear hX3 hY3
    by_cases hq : dq = 0
    · subst hq
      obtain ⟨e1, e2⟩ := Hcan.out _ rfl
      have E1 := Lib.hid e1
      have E2 : Hid (strOf (encRB ⟨p, bl, i, h0, h1, h2, h3, h4, h5, h6, h7⟩) = sn) := by show _ = _; rw [e2, strOf_bytes]
      clear e1 e2
      go_wp2_with fail
      refine (lEncodeR_any p bl i h0 h1 h2 h3 h4 h5 h6 h7 _ E1.out).mono ?_
      rw [E2.out]
      rintro e w5 ⟨rfl, hb⟩
      have HB5 : Hid (Below w.heap.size w w5) := HB3.out.trans (hb.mono HB3.out.size)
      clear hb c0 c1 c2 c3 c4 c5 c6 c7 c8 c9 c10 d0 d1 d2 d3 d4 d5 d6 d7 d8 d9 d10
      go_wp2
      go_ret
      exact ⟨rfl, HB5.out⟩
    · have hq' : ((dq : Int) != 0) = true := bne_iff_ne.2 (by omega)
      clear hq
      go_wp2
      go_ret
      exact ⟨rfl, HB3.out⟩

theorem sdecodes_any (s : ByteArray) (w : World) (hu : Usages w) : Calls Tryd.prog 5 #[.string s] w (TruePost w) := by
  by_cases h : (100 : Int) < (s.size : Int)
  · exact sdecodes_in s (s.extract 0 100) w (by rw [ByteArray.size_extract]; omega) (.inl ⟨h, rfl⟩) hu
  · exact sdecodes_in s s w (by omega) (.inr ⟨h, rfl⟩) hu

set_option maxRecDepth 100000 in
set_option maxHeartbeats 1600000 in
theorem schecks_any (p bl i h0 h1 h2 h3 h4 h5 h6 h7 : Int) (w : World) (hu : Usages w) : Calls Tryd.prog 4 #[.agg #[.int .i64 p, .int .i64 bl, .int .i64 i, .int .i64 h0, .int .i64 h1, .int .i64 h2, .int .i64 h3, .int .i64 h4, .int .i64 h5, .int .i64 h6, .int .i64 h7]] w (TruePost w) := by
  have Hu := Lib.hid hu; clear hu
  have HBx : Hid (∀ o, Below w.heap.size w (w.alloc o)) := fun o => (Below.refl _ _).alloc (Nat.le_refl _) _
  have HXx : Hid (∀ o, (w.alloc o).heap[w.heap.size]? = some o) := fun o => heap_alloc_new w o
  have hsame := sameRB_refl ⟨p, bl, i, h0, h1, h2, h3, h4, h5, h6, h7⟩
  obtain ⟨q, hq⟩ : ∃ q, checkR ⟨p, bl, i, h0, h1, h2, h3, h4, h5, h6, h7⟩ = q := ⟨_, rfl⟩
  have Hq := Lib.hid hq; clear hq
  obtain ⟨sv, dq, hen⟩ : ∃ sv dq, encR ⟨p, bl, i, h0, h1, h2, h3, h4, h5, h6, h7⟩ = (sv, dq) := ⟨_, _, rfl⟩
  have Hdq : Hid (dq = q) := by
    show _ = _
    unfold encR at hen
    rw [Hq.out] at hen
    by_cases h : q = 0
    · rw [if_pos h] at hen; rw [← (Prod.mk.inj hen).2, h]
    · rw [if_neg h] at hen; exact (Prod.mk.inj hen).2.symm
  obtain rfl := Hdq.out
  clear Hdq
  have Hen := Lib.hid hen; clear hen
  go_enter Tryd.func4, Tryd.ntmps4
  go_wp2_with fail
  refine (rEncode_any p bl i h0 h1 h2 h3 h4 h5 h6 h7 _).mono ?_
  rw [Hen.out]
  rintro e w1 ⟨rfl, hb⟩
  have HB1 : Hid (Below w.heap.size w w1) := (HBx.out _).trans (hb.mono (HBx.out _).size)
  have HX1 : Hid (w1.heap[w.heap.size]? = some (.cells (rCells ⟨p, bl, i, h0, h1, h2, h3, h4, h5, h6, h7⟩) 42 (0, 0))) := (hb.block _ (lt_of_heap (HXx.out _))).trans (HXx.out _)
  clear hb HBx HXx
  go_wp2_with fail
  refine (known33 _ (Hu.out.below HB1.out Hu.out.pos)).mono ?_
  rintro e w2 ⟨rfl, hb⟩
  have HB2 : Hid (Below w.heap.size w w2) := HB1.out.trans (hb.mono HB1.out.size)
  have HX2 := Lib.hid ((hb.block _ (lt_of_heap HX1.out)).trans HX1.out)
  clear hb HB1 HX1
  obtain ⟨c0, c1, c2, c3, c4, c5, c6, c7, c8, c9, c10⟩ := at11 HX2.out
  dsimp only at c0 c1 c2 c3 c4 c5 c6 c7 c8 c9 c10
  go_wp2_with fail
  refine (lCheck_any p bl i h0 h1 h2 h3 h4 h5 h6 h7 _).mono ?_
  rw [Hq.out]
  rintro e w3 ⟨rfl, hb⟩
  have HB3 : Hid (Below w.heap.size w w3) := HB2.out.trans (hb.mono HB2.out.size)
  have HX3 := Lib.hid ((hb.block _ (lt_of_heap HX2.out)).trans HX2.out)
  clear hb HB2 HX2 c0 c1 c2 c3 c4 c5 c6 c7 c8 c9 c10
  obtain ⟨c0, c1, c2, c3, c4, c5, c6, c7, c8, c9, c10⟩ := at11 HX3.out
  dsimp only at c0 c1 c2 c3 c4 c5 c6 c7 c8 c9 c10
  go_wp2_with fail
  refine (recCheck_any p bl i h0 h1 h2 h3 h4 h5 h6 h7 _).mono ?_
  rw [Hq.out]
  rintro e w4 ⟨rfl, hb⟩
  have HB4 : Hid (Below w.heap.size w w4) := HB3.out.trans (hb.mono HB3.out.size)
  have HX4 := Lib.hid ((hb.block _ (lt_of_heap HX3.out)).trans HX3.out)
  clear hb HB3 HX3 c0 c1 c2 c3 c4 c5 c6 c7 c8 c9 c10
  by_cases h0' : dq = 0
  · subst h0'
    have Hsv : Hid (sv = strOf (encRB ⟨p, bl, i, h0, h1, h2, h3, h4, h5, h6, h7⟩)) := by
      show _ = _
      have := Hen.out
      unfold encR at this
      rw [if_pos Hq.out] at this
      exact (Prod.mk.inj this).1.symm
    obtain rfl := Hsv.out
    have hsz : (strOf (encRB ⟨p, bl, i, h0, h1, h2, h3, h4, h5, h6, h7⟩)).size ≤ 35184372088832 := Nat.le_trans (encRB_size _) (by decide)
    have Hde := Lib.hid (rdec_enc _ Hq.out)
    obtain ⟨sn, hsn⟩ : ∃ sn, strOf (encRB ⟨p, bl, i, h0, h1, h2, h3, h4, h5, h6, h7⟩) = sn := ⟨_, rfl⟩
    rw [hsn] at hsz Hde
    rw [hsn]
    have Hsn := Lib.hid hsn; clear hsn Hsv
    go_wp2_with fail
    refine (rDecode_any sn _ hsz).mono ?_
    rw [Hde.out]
    rintro e w5 ⟨rfl, hb⟩
    have hlt5 : w.heap.size < w5.heap.size := Nat.lt_of_lt_of_le (lt_of_heap HX4.out) hb.size
    have HB5 : Hid (∀ o, Below w.heap.size w (w5.alloc o)) := fun o => (HB4.out.trans (hb.mono HB4.out.size)).alloc (Nat.le_of_lt hlt5) _
    have HX5 : Hid (∀ o, (w5.alloc o).heap[w.heap.size]? = some (.cells (rCells ⟨p, bl, i, h0, h1, h2, h3, h4, h5, h6, h7⟩) 42 (0, 0))) := fun o => (Below.heap_alloc w5 o _ hlt5).trans ((hb.block _ (lt_of_heap HX4.out)).trans HX4.out)
    have HY5 : Hid (∀ o, (w5.alloc o).heap[w5.heap.size]? = some o) := fun o => heap_alloc_new w5 o
    have HX5' : Hid (w5.heap[w.heap.size]? = some (.cells (rCells ⟨p, bl, i, h0, h1, h2, h3, h4, h5, h6, h7⟩) 42 (0, 0))) := (hb.block _ (lt_of_heap HX4.out)).trans HX4.out
    clear hb HB4 HX4
    dsimp only [recV, rCells]
    obtain ⟨c0, c1, c2, c3, c4, c5, c6, c7, c8, c9, c10⟩ := at11 HX5'.out
    dsimp only at c0 c1 c2 c3 c4 c5 c6 c7 c8 c9 c10
    have hne5 := World.new_ne w5 ⟨w.heap.size, 0, none⟩ c0
    go_wp2_with fail
    have HB6 := Lib.hid (HB5.out (.cells #[.int .i64 p, .int .i64 bl, .int .i64 i, .int .i64 h0, .int .i64 h1, .int .i64 h2, .int .i64 h3, .int .i64 h4, .int .i64 h5, .int .i64 h6, .int .i64 h7] 42))
    have HX6 := Lib.hid (HX5.out (.cells #[.int .i64 p, .int .i64 bl, .int .i64 i, .int .i64 h0, .int .i64 h1, .int .i64 h2, .int .i64 h3, .int .i64 h4, .int .i64 h5, .int .i64 h6, .int .i64 h7] 42))
    have HY6 : Hid (_ = some (Obj.cells (rCells ⟨p, bl, i, h0, h1, h2, h3, h4, h5, h6, h7⟩) 42 (0, 0))) := HY5.out (.cells #[.int .i64 p, .int .i64 bl, .int .i64 i, .int .i64 h0, .int .i64 h1, .int .i64 h2, .int .i64 h3, .int .i64 h4, .int .i64 h5, .int .i64 h6, .int .i64 h7] 42)
    refine (lEncodeR_any p bl i h0 h1 h2 h3 h4 h5 h6 h7 _ Hq.out).mono ?_
    rw [Hsn.out]
    rintro e w7 ⟨rfl, hb⟩
    have HB7 : Hid (Below w.heap.size w w7) := HB6.out.trans (hb.mono HB6.out.size)
    have hX7 := (hb.block _ (lt_of_heap HX6.out)).trans HX6.out
    have hY7 := (hb.block _ (lt_of_heap HY6.out)).trans HY6.out
    clear hb HB6 HX6 HY6 c0 c1 c2 c3 c4 c5 c6 c7 c8 c9 c10
    obtain ⟨c0, c1, c2, c3, c4, c5, c6, c7, c8, c9, c10⟩ := at11 hX7
    obtain ⟨d0, d1, d2, d3, d4, d5, d6, d7, d8, d9, d10⟩ := at11 hY7
    dsimp only at c0 c1 c2 c3 c4 c5 c6 c7 c8 c9 c10 d0 d1 d2 d3 d4 d5 d6 d7 d8 d9 d10
    clear hX7 hY7
    go_wp2
    go_ret
    exact ⟨rfl, HB7.out⟩
  · have hq' : ((dq : Int) != 0) = true := bne_iff_ne.2 (by omega)
    have Hsv : Hid (sv = ⟨#[]⟩) := by
      show _ = _
      have := Hen.out
      unfold encR at this
      rw [if_neg (by rw [Hq.out]; exact h0')] at this
      exact (Prod.mk.inj this).1.symm
    obtain rfl := Hsv.out
    clear h0' Hsv
    go_wp2
    go_ret
    exact ⟨rfl, HB4.out⟩

end Go.Proofs.YtmknhokjpmjkkaaDoor
