/- law 08: GraphNil. (printed by wip/gen_gmlx.py) -/
import Derived.Test.YteiddebjbiadbaaGmLw
namespace Go.Proofs.Yteiddebjbiadbaa
open Go.RowKit Gr
attribute [local go_sem ↓] Go.wp_at_zero Go.wp_at_succ

attribute [local go_sem ↓] run_eql_E
theorem calls_keep {f : FuncId} {args : Array Value} {w : World} {e : Ending} (h : Calls Try.prog f args w fun r w' => r = e ∧ w' = w) : Calls Try.prog f args w fun r w' => r = e ∧ Below w.heap.size w w' :=
  h.mono (fun _ _ q => ⟨q.1, by rw [q.2]; exact Below.refl _ _⟩)
theorem after_0 {w : World} {n p : Nat} {es : List Ed} (h : GOk w p n (aft es) (bef es)) (hn : 1 ≤ n) : Calls Try.prog 30 #[.pointer (some ⟨p, 0, none⟩), .int .i64 0] w fun r w' => ∃ v, r = .returned v ∧ OwnK kNat w.heap.size w' v (aft es 0) ∧ Below w.heap.size w w' := by
  refine (gAfter_any h 0).mono ?_
  rintro r w' ⟨hb, ⟨q, -⟩ | ⟨a, ha, _, v, rfl, ho⟩⟩
  · have : nodeB n 0 = true := nodeB_iff.2 (by omega)
    rw [q] at this; cases this
  · obtain rfl : a = 0 := by omega
    exact ⟨v, rfl, ho, hb⟩
theorem own_block {α : Type} {K : KindK α} {base : Nat} {w : World} {a : Option Addr} {m c : Nat} {xs : List α} (h : OwnK K base w (.slice a m c) xs) : m = 0 ∨ ∃ g L, a = some ⟨g, 0, none⟩ ∧ RowIs w g K.T L ∧ m * K.S ≤ L.length ∧ base ≤ g ∧ g < w.heap.size := by
  have hh := h
  rcases hh.2 with ⟨hv, h0⟩ | ⟨g, cap, cur, hv, hb, hg, hnc, hmx, hsz, -⟩
  · cases hv; exact .inl rfl
  · simp only [Value.slice.injEq] at hv
    obtain ⟨rfl, rfl, rfl⟩ := hv
    refine .inr ⟨g, cur.toList, rfl, ?_, ?_, hb, lt_of_heap hg⟩
    · unfold RowIs; rw [Array.toArray_toList]; exact hg
    · exact Nat.le_trans (Nat.mul_le_mul_right _ hnc) (Nat.le_of_eq (hsz.symm.trans Array.length_toList.symm))
/-- The first i edges agree, and there are as many. -/
def eqUp (es fs : List Ed) (i : Nat) : Bool := decide (es.length = fs.length) && decide (es.take i = fs.take i)
theorem eqUp_end {es fs : List Ed} : eqUp es fs es.length = decide (es = fs) := by
  unfold eqUp
  by_cases h : es.length = fs.length
  · rw [decide_eq_true h, Bool.true_and, List.take_length, h, List.take_length]
  · rw [decide_eq_false h, Bool.false_and, decide_eq_false (fun e => h (by rw [e]))]
theorem eqUp_no {es fs : List Ed} {i : Nat} (h : eqUp es fs i = false) : decide (es = fs) = false := by
  refine decide_eq_false (fun e => ?_)
  subst e
  unfold eqUp at h
  rw [decide_eq_true rfl, decide_eq_true rfl] at h
  cases h
theorem eqUp_succ {es fs : List Ed} {i : Nat} {x y : Ed} (h : eqUp es fs i = true) (hx : es[i]? = some x) (hy : fs[i]? = some y) : eqUp es fs (i + 1) = eqE (ofEd x) (ofEd y) := by
  unfold eqUp at *
  rw [Bool.and_eq_true, decide_eq_true_iff, decide_eq_true_iff] at h
  rw [decide_eq_true h.1, Bool.true_and, List.take_add_one, List.take_add_one, hx, hy, h.2]
  unfold eqE
  rw [Bool.eq_iff_iff, decide_eq_true_iff, decide_eq_true_iff]
  constructor
  · intro e
    have := List.append_cancel_left e
    simp at this
    rw [this]
  · intro e
    rw [ofEd_inj _ _ e]
set_option linter.unusedSimpArgs false in
set_option maxRecDepth 100000 in
set_option maxHeartbeats 20000000 in
theorem lawNil_any {w : World} {m : Nat} {v v2 : Value} {l l2 : List (Int × Int)} (h : RowK kE w v l) (hl : l.length ≤ 9223372036854775807) (h2 : RowK kE w v2 l2) (hl2 : l2.length ≤ 9223372036854775807) (hm : m ≤ 255) :
    Calls Try.prog 10 #[.int .u8 (m : Int), v, v2] w (TruePost w) := by
  obtain ⟨av, cv, rfl, -⟩ := h.form
  obtain ⟨av2, cv2, rfl, -⟩ := h2.form
  have H2 := Lib.hid h2
  have Hl2 := Lib.hid hl2
  clear h2
  have HBx : Hid (Below w.heap.size w w) := Below.refl _ _
  have Hm := Lib.hid hm
  have Hl := Lib.hid hl
  have H := Lib.hid h
  clear h
  go_enter Try.func10, Try.ntmps10
  go_wp2_with fail
  refine (known_any _).mono ?_
  rintro r x2 ⟨rfl, hb2⟩
  have HB2 : Hid (Below w.heap.size w x2) := HBx.out.trans (hb2.mono HBx.out.size)
  clear hb2
  have HK := Lib.hid (make_any (H.out.later HB2.out) Hl.out Hm.out)
  go_wp2_with fail
  refine HK.out.mono ?_
  rintro r x3 ⟨hb3, n, p, vg, es, rfl, hn1, hn30, hes, hnm, hin, hG, hO, hp⟩
  have HB3 : Hid (Below w.heap.size w x3) := HB2.out.trans (hb3.mono HB2.out.size)
  have Hn : Hid (1 ≤ n ∧ n ≤ 30 ∧ es.length ≤ 120) := ⟨hn1, hn30, hes⟩
  have Hin := Lib.hid hin
  have Hnm := Lib.hid hnm
  have HG := Lib.hid hG
  obtain ⟨ga, gc, egv, -⟩ := hO.row.form
  obtain ⟨gm, hgm⟩ : ∃ m, (es.map ofEd).length = m := ⟨_, rfl⟩
  rw [hgm] at egv
  subst egv
  have HO := Lib.hid hO
  have Hnv := Lib.hid hp.2
  clear hgm hb3 hn1 hn30 hes hnm hin hG hO hp HK
  go_upto_region 4 with fail
  obtain ⟨y0, hy0⟩ : ∃ y, x3.alloc (.cells #[.int .i64 (n : Int), .slice ga gm gc] 27) = y := ⟨_, rfl⟩
  have hb4 : Below x3.heap.size x3 y0 := by rw [← hy0]; exact (Below.refl _ _).alloc (Nat.le_refl _) _
  have HT : Hid (RowIs y0 x3.heap.size 27 [.int .i64 (n : Int), .slice ga gm gc]) := by rw [← hy0]; exact new_row _ _ _
  rw [hy0]
  have HBy : Hid (Below w.heap.size w y0) := HB3.out.trans (hb4.mono HB3.out.size)
  have HGy := Lib.hid (HG.out.later hb4)
  have HOy := Lib.hid (HO.out.later hb4)
  clear hy0 hb4 HG HO HB3 HB2 HBx
  obtain ⟨t, ht⟩ : ∃ t, x3.heap.size = t := ⟨_, rfl⟩
  rw [ht] at HT ⊢
  clear ht
  have HK2 := Lib.hid (make_any (H2.out.later HBy.out) Hl2.out Hm.out)
  go_wp2_with fail
  refine HK2.out.mono ?_
  rintro r x5 ⟨hb5, n2, p2, vh, fs, rfl, -, -, hfs, hfnm, hfin, hG2, hO2, hp2⟩
  obtain rfl : n2 = n := by have := hp2.2; have := Hnv.out; omega
  have HB5 : Hid (Below w.heap.size w x5) := HBy.out.trans (hb5.mono HBy.out.size)
  have HGy := Lib.hid (HGy.out.later hb5)
  have HOy := Lib.hid (HOy.out.later hb5)
  have HT := Lib.hid (HT.out.later hb5)
  have Hfn : Hid (fs.length ≤ 120) := hfs
  have Hfin := Lib.hid hfin
  have Hfnm := Lib.hid hfnm
  have HG2 := Lib.hid hG2
  obtain ⟨fa, fc, efv, -⟩ := hO2.row.form
  obtain ⟨fm, hfm⟩ : ∃ m, (fs.map ofEd).length = m := ⟨_, rfl⟩
  rw [hfm] at efv
  subst efv
  have HO2 := Lib.hid hO2
  have Hfm : Hid (fm = fs.length) := by show _ = _; rw [← hfm, List.length_map]
  clear hfm hb5 hfs hfnm hfin hG2 hO2 hp2 HK2 HBy
  go_upto_region 5 with fail
  obtain ⟨z0, hz0⟩ : ∃ y, x5.alloc (.cells #[.int .i64 (n2 : Int), .slice fa fm fc] 27) = y := ⟨_, rfl⟩
  have hb6 : Below x5.heap.size x5 z0 := by rw [← hz0]; exact (Below.refl _ _).alloc (Nat.le_refl _) _
  have HT2 : Hid (RowIs z0 x5.heap.size 27 [.int .i64 (n2 : Int), .slice fa fm fc]) := by rw [← hz0]; exact new_row _ _ _
  rw [hz0]
  have HBz : Hid (Below w.heap.size w z0) := HB5.out.trans (hb6.mono HB5.out.size)
  have HGz := Lib.hid (HGy.out.later hb6)
  have HHz := Lib.hid (HG2.out.later hb6)
  have HOz := Lib.hid (HOy.out.later hb6)
  have HFz := Lib.hid (HO2.out.later hb6)
  have HTz := Lib.hid (HT.out.later hb6)
  clear hz0 hb6 HGy HOy HT HG2 HO2 HB5
  obtain ⟨t2, ht2⟩ : ∃ t, x5.heap.size = t := ⟨_, rfl⟩
  rw [ht2] at HT2 ⊢
  clear ht2
  obtain ⟨n, hnn⟩ : ∃ n, n = n2 := ⟨_, rfl⟩
  subst hnn
  have Hgm : Hid (gm = es.length) := by
    obtain ⟨a, c, e, -⟩ := HOz.out.row.form
    rw [List.length_map] at e
    simp only [Value.slice.injEq] at e
    exact e.2.1
  have hgm := Hgm.out
  have hfm := Hfm.out
  subst hgm
  subst hfm
  have e0 := HTz.out.cell (i := 0) rfl
  have e1 := HTz.out.cell (i := 1) rfl
  have f1 := HT2.out.cell (i := 1) rfl
  obtain ⟨tb0, htb0⟩ : ∃ b, eqUp es fs 0 = b := ⟨_, rfl⟩
  have Htb0 := Lib.hid htb0
  have hs0 : eqUp es fs 0 = decide (es.length = fs.length) := by unfold eqUp; simp
  rw [hs0] at htb0
  have hs1 : (es.length == fs.length) = tb0 := by rw [← htb0]; rfl
  have hs2 : ((es.length : Int) == (fs.length : Int)) = tb0 := by rw [← htb0, Bool.eq_iff_iff, beq_iff_eq, decide_eq_true_iff]; omega
  have hs3 : decide ((es.length : Int) = (fs.length : Int)) = tb0 := by rw [← htb0, Bool.eq_iff_iff, decide_eq_true_iff, decide_eq_true_iff]; omega
  clear hs0
  go_upto_block 0 with fail
  go_cut [11] from 49 to 69 (fun bv wx => bv = .bool (decide (es = fs)) ∧ Hid (Below z0.heap.size z0 wx))
  case first =>
    clear hs1 hs2 hs3 htb0
    go_wp2
    go_loopg [11, 12] es.length (fun gk tv iv wr => ∃ i : Nat, Hid (i + gk = es.length) ∧ tv = .bool (eqUp es fs i) ∧ iv = .int .i64 i ∧ Hid (Below z0.heap.size z0 wr))
    case atStart => exact ⟨0, Nat.zero_add _, by rw [Htb0.out], rfl, Below.refl _ _⟩
    case round =>
      obtain ⟨i, Hi, rfl, rfl, HB⟩ := hrel
      have e1 := cellL (HTz.out.cell (i := 1) rfl) HB.out
      have f1 := cellL (HT2.out.cell (i := 1) rfl) HB.out
      obtain ⟨tb, htb⟩ : ∃ tb, eqUp es fs i = tb := ⟨_, rfl⟩
      rw [htb]
      have Htb := Lib.hid htb
      clear htb
      cases tb
      · have HF : Hid (Value.bool false = .bool (decide (es = fs))) := by show _ = _; rw [eqUp_no Htb.out]
        by_cases hlt : (i : Int) < (es.length : Int)
        · go_wp2
          go_meet
          exact ⟨HF.out, HB⟩
        · go_wp2
          go_meet
          exact ⟨HF.out, HB⟩
      · by_cases hlt : i < es.length
        · have hle : es.length = fs.length := by
            have := Htb.out
            unfold eqUp at this
            rw [Bool.and_eq_true, decide_eq_true_iff] at this
            exact this.1
          obtain ⟨⟨x1, x2⟩, hx⟩ : ∃ e, es[i]? = some e := ⟨_, List.getElem?_eq_getElem hlt⟩
          obtain ⟨⟨y1, y2⟩, hy⟩ : ∃ e, fs[i]? = some e := ⟨_, List.getElem?_eq_getElem (by omega)⟩
          obtain ⟨g1, o1, c1, hv1, q1, q2⟩ := HOz.out.row.pair (i := i) (x := (x1 : Int)) (y := (x2 : Int)) (by rw [List.getElem?_map, hx]; rfl)
          obtain ⟨rfl, -⟩ : ga = some ⟨g1, o1, none⟩ ∧ gc = c1 := by simpa using hv1
          obtain ⟨g2, o2, c2, hv2, q3, q4⟩ := HFz.out.row.pair (i := i) (x := (y1 : Int)) (y := (y2 : Int)) (by rw [List.getElem?_map, hy]; rfl)
          obtain ⟨rfl, -⟩ : fa = some ⟨g2, o2, none⟩ ∧ fc = c2 := by simpa using hv2
          have d1 := cellL q1 HB.out
          have d2 := cellL q2 HB.out
          have d3 := cellL q3 HB.out
          have d4 := cellL q4 HB.out
          have Hst := Lib.hid (eqUp_succ Htb.out hx hy)
          have hii : (i : Int) < (es.length : Int) := by omega
          have hif : (i : Int) < (fs.length : Int) := by omega
          have his : i ≤ 120 := by have := Hn.out; omega
          have Hlt := Lib.hid hlt
          clear hv1 hv2 q1 q2 q3 q4 hx hy hlt hle
          go_upto_region 11 with fail
          go_quiet (fail)
          go_wp2
          go_roundg (es.length - (i + 1))
          case measure => have := Hi.out; have := Hlt.out; omega
          case rel => exact ⟨i + 1, by have := Hi.out; have := Hlt.out; show _ = _; omega, by rw [Hst.out]; rfl, by go_num, Below.dn HB.out _⟩
        · obtain rfl : i = es.length := by have := Hi.out; omega
          have HF : Hid (Value.bool true = .bool (decide (es = fs))) := by show _ = _; rw [← eqUp_end, Htb.out]
          have hii : ¬ (es.length : Int) < (es.length : Int) := by omega
          clear hlt
          go_wp2
          go_meet
          exact ⟨HF.out, HB⟩
  case rest =>
    clear hs1 hs2 hs3 htb0 Htb0 e0 e1 f1
    obtain ⟨rfl, HBc⟩ := hcut
    obtain ⟨tb, htb⟩ : ∃ tb, decide (es = fs) = tb := ⟨_, rfl⟩
    rw [htb]
    have Htb := Lib.hid htb
    clear htb
    have HGc : Hid (∀ W, Below wc.heap.size wc W → GOk W p n (aft es) (bef es)) := fun W hW => (HGz.out.later HBc.out).later hW
    have Hn0 : Hid (1 ≤ n) := Hn.out.1
    have Hed : Hid (edgesF (aft es) n = es) := edges_aft Hnm.out Hin.out
    have HeL : Hid ((edgesF (aft es) n).length ≤ 100000) := by show _ ≤ _; rw [Hed.out]; have := Hn.out; omega
    have e0 := cellL (HTz.out.cell (i := 0) rfl) HBc.out
    have e1 := cellL (HTz.out.cell (i := 1) rfl) HBc.out
    go_wp2_with fail
    refine (edges_any (HGc.out _ (Below.refl _ _)) HeL.out).mono ?_
    rintro r zc1 ⟨v1, rfl, ho, hb⟩
    have HBc1 : Hid (Below wc.heap.size wc zc1) := hb
    rw [Hed.out] at ho
    have HO1 := Lib.hid ho
    have HOlt : Hid (∀ k, v1.ownBlock = some k → k < zc1.heap.size) := fun k hk => (ho.lt hk).2
    clear ho hb e0 e1
    go_wp2_with fail
    refine (after_0 (HGc.out _ HBc1.out) Hn0.out).mono ?_
    rintro r zc2 ⟨v2, rfl, ho, hb⟩
    have HBc2 : Hid (Below wc.heap.size wc zc2) := HBc1.out.trans (hb.mono HBc1.out.size)
    have HO2 := Lib.hid ho
    have HO1 := Lib.hid (HO1.out.later hb)
    clear ho hb
    obtain ⟨a1, c1, ev1, -⟩ := HO1.out.row.form
    rw [List.length_map] at ev1
    obtain ⟨a2, c2, ev2, -⟩ := HO2.out.row.form
    subst ev1
    subst ev2
    have HW1 : Hid (es.length = 0 ∨ ∃ g L, a1 = some ⟨g, 0, none⟩ ∧ RowIs zc2 g 60 L ∧ es.length * 2 ≤ L.length ∧ wc.heap.size ≤ g ∧ g < zc1.heap.size) := by
      rcases own_block HO1.out with q | ⟨g, L, q1, q2, q3, q4, _⟩
      · exact .inl q
      · exact .inr ⟨g, L, q1, q2, q3, q4, HOlt.out g (by rw [q1]; rfl)⟩
    have HW2 : Hid ((aft es 0).length = 0 ∨ ∃ g L, a2 = some ⟨g, 0, none⟩ ∧ RowIs zc2 g 3 L ∧ (aft es 0).length ≤ L.length ∧ zc1.heap.size ≤ g) := by
      rcases own_block HO2.out with q | ⟨g, L, q1, q2, q3, q4, _⟩
      · exact .inl q
      · exact .inr ⟨g, L, q1, q2, by rw [show kNat.S = 1 from rfl, Nat.mul_one] at q3; exact q3, q4⟩
    have Hz1 : Hid (wc.heap.size ≤ zc1.heap.size) := HBc1.out.size
    have Hal : Hid ((aft es 0).length ≤ 120) := by
      show _ ≤ _
      unfold aft; rw [List.length_map]
      exact Nat.le_trans (List.length_filter_le _ _) Hn.out.2.2
    obtain ⟨ma, hma⟩ : ∃ m, (aft es 0).length = m := ⟨_, rfl⟩
    rw [hma] at HW2 Hal ⊢
    have HBd : Hid (Below wc.heap.size wc zc2) := HBc2.out
    clear hma HO1 HO2 HOlt HBc1 HBc2
    go_wp2
    go_loopg [15] es.length (fun gk iv wr => ∃ i : Nat, Hid (i + gk = es.length) ∧ iv = .int .i64 i ∧ Hid (Below wc.heap.size wc wr) ∧ Hid (es.length = 0 ∨ ∃ g L, a1 = some ⟨g, 0, none⟩ ∧ RowIs wr g 60 L ∧ es.length * 2 ≤ L.length ∧ wc.heap.size ≤ g ∧ g < zc1.heap.size) ∧ Hid (ma = 0 ∨ ∃ g L, a2 = some ⟨g, 0, none⟩ ∧ RowIs wr g 3 L ∧ ma ≤ L.length ∧ zc1.heap.size ≤ g))
    case atStart => exact ⟨0, Nat.zero_add _, rfl, HBd, HW1, HW2⟩
    case round =>
      clear HW1 HW2 HBd
      obtain ⟨i, Hi, rfl, HB, HW1, HW2⟩ := hrel
      by_cases hlt : i < es.length
      · obtain ⟨g, L, hga, hrow, hlen, hg1, hg2⟩ : ∃ g L, a1 = some ⟨g, 0, none⟩ ∧ RowIs wr g 60 L ∧ es.length * 2 ≤ L.length ∧ wc.heap.size ≤ g ∧ g < zc1.heap.size := HW1.out.resolve_left (by omega)
        subst hga
        obtain ⟨u0, hu0⟩ : ∃ u, L[i * 2]? = some u := ⟨_, List.getElem?_eq_getElem (by omega)⟩
        obtain ⟨u1, hu1⟩ : ∃ u, L[i * 2 + 1]? = some u := ⟨_, List.getElem?_eq_getElem (by omega)⟩
        have d0 := hrow.cell hu0
        have d1 := hrow.cell hu1
        have f0 := RowIs.free hrow (i * 2)
        have f1 := RowIs.free hrow (i * 2 + 1)
        have HX1 : Hid (es.length = 0 ∨ ∃ g' L, some (⟨g, 0, none⟩ : Addr) = some ⟨g', 0, none⟩ ∧ RowIs ((wr.setCell ⟨g, i * 2, none⟩ (.int .i64 (-1))).setCell ⟨g, i * 2 + 1, none⟩ (.int .i64 (-1))) g' 60 L ∧ es.length * 2 ≤ L.length ∧ wc.heap.size ≤ g' ∧ g' < zc1.heap.size) :=
          .inr ⟨g, _, rfl, RowIs.set (RowIs.set hrow (i * 2) _) (i * 2 + 1) _, by rw [List.length_set, List.length_set]; exact hlen, hg1, hg2⟩
        have HX2 : Hid (ma = 0 ∨ ∃ g' L, a2 = some ⟨g', 0, none⟩ ∧ RowIs ((wr.setCell ⟨g, i * 2, none⟩ (.int .i64 (-1))).setCell ⟨g, i * 2 + 1, none⟩ (.int .i64 (-1))) g' 3 L ∧ ma ≤ L.length ∧ zc1.heap.size ≤ g') := by
          rcases HW2.out with q | ⟨g', L', q1, q2, q3, q4⟩
          · exact .inl q
          · exact .inr ⟨g', L', q1, RowIs.other_set (RowIs.other_set q2 (by omega) _ _) (by omega) _ _, q3, q4⟩
        have HX3 : Hid (Below wc.heap.size wc ((wr.setCell ⟨g, i * 2, none⟩ (.int .i64 (-1))).setCell ⟨g, i * 2 + 1, none⟩ (.int .i64 (-1)))) :=
          (HB.out.setCell (p := ⟨g, i * 2, none⟩) hg1 _).setCell (p := ⟨g, i * 2 + 1, none⟩) hg1 _
        have hii : (i : Int) < (es.length : Int) := by omega
        have his : i ≤ 120 := by have := Hn.out; omega
        have Hlt := Lib.hid hlt
        clear hrow hlen hu0 hu1 hlt HW1 HW2 HB hg1 hg2
        go_wp2
        go_roundg (es.length - (i + 1))
        case measure => have := Hi.out; have := Hlt.out; omega
        case rel => exact ⟨i + 1, by have := Hi.out; have := Hlt.out; show _ = _; omega, by go_num, HX3, HX1, HX2⟩
      · have hii : ¬ (i : Int) < (es.length : Int) := by omega
        clear HW1 hlt
        go_wp2
        go_loopg [16] ma (fun gk iv wr => ∃ j : Nat, Hid (j + gk = ma) ∧ iv = .int .i64 j ∧ Hid (Below wc.heap.size wc wr) ∧ Hid (ma = 0 ∨ ∃ g L, a2 = some ⟨g, 0, none⟩ ∧ RowIs wr g 3 L ∧ ma ≤ L.length ∧ zc1.heap.size ≤ g))
        case atStart => exact ⟨0, Nat.zero_add _, rfl, HB, HW2⟩
        case round =>
          clear HW2 HB
          obtain ⟨j, Hj, rfl, HB, HW2⟩ := hrel
          by_cases hlt : j < ma
          · obtain ⟨g, L, hga, hrow, hlen, hg1⟩ : ∃ g L, a2 = some ⟨g, 0, none⟩ ∧ RowIs wr g 3 L ∧ ma ≤ L.length ∧ zc1.heap.size ≤ g := HW2.out.resolve_left (by omega)
            subst hga
            obtain ⟨u0, hu0⟩ : ∃ u, L[j]? = some u := ⟨_, List.getElem?_eq_getElem (by omega)⟩
            have d0 := hrow.cell hu0
            have f0 := RowIs.free hrow j
            have HX2 : Hid (ma = 0 ∨ ∃ g' L, some (⟨g, 0, none⟩ : Addr) = some ⟨g', 0, none⟩ ∧ RowIs (wr.setCell ⟨g, j, none⟩ (.int .i64 (-1))) g' 3 L ∧ ma ≤ L.length ∧ zc1.heap.size ≤ g') :=
              .inr ⟨g, _, rfl, RowIs.set hrow j _, by rw [List.length_set]; exact hlen, hg1⟩
            have HX3 : Hid (Below wc.heap.size wc (wr.setCell ⟨g, j, none⟩ (.int .i64 (-1)))) := HB.out.setCell (p := ⟨g, j, none⟩) (Nat.le_trans Hz1.out hg1) _
            have hjj : (j : Int) < (ma : Int) := by omega
            have hjs : j ≤ 120 := by have := Hal.out; omega
            have Hlt := Lib.hid hlt
            clear hrow hlen hu0 hlt HW2 HB hg1
            go_wp2
            go_roundg (ma - (j + 1))
            case measure => have := Hj.out; have := Hlt.out; omega
            case rel => exact ⟨j + 1, by have := Hj.out; have := Hlt.out; show _ = _; omega, by go_num, HX3, HX2⟩
          · have hjj : ¬ (j : Int) < (ma : Int) := by omega
            clear HW2 hlt
            go_wp2_with fail
            refine (path_nil _ 0 0).mono ?_
            rintro r q1 ⟨rfl, rfl⟩
            unfold nilT
            go_wp2_with fail
            refine (order_nil _).mono ?_
            rintro r q2 ⟨rfl, rfl⟩
            unfold nilT
            go_upto_region 24 with fail
            obtain ⟨wd, hwd⟩ : ∃ x, x = q2 := ⟨_, rfl⟩
            subst hwd
            have HBwd : Hid (Below w.heap.size w wd) := HBz.out.trans ((HBc.out.trans (HB.out.mono HBc.out.size)).mono HBz.out.size)
            have HBzd : Hid (Below z0.heap.size z0 wd) := HBc.out.trans (HB.out.mono HBc.out.size)
            have HGd : Hid (∀ W, Below wd.heap.size wd W → GOk W p n (aft es) (bef es)) := fun W hW => (HGz.out.later HBzd.out).later hW
            have HHd : Hid (∀ W, Below wd.heap.size wd W → GOk W p2 n (aft fs) (bef fs)) := fun W hW => (HHz.out.later HBzd.out).later hW
            have HOd : Hid (∀ W, Below wd.heap.size wd W → OwnK kE x2.heap.size W (.slice ga es.length gc) (es.map ofEd)) := fun W hW => (HOz.out.later HBzd.out).later hW
            have HQ1 : Hid (∀ bq : Bool, (bq = true ↔ ∀ i, i < n → aft es i = aft fs i) → bq = tb) := fun bq hq => by
              rw [← Htb.out, Bool.eq_iff_iff, decide_eq_true_iff, hq]
              exact ⟨fun h => eq_of_aft Hnm.out Hfnm.out Hin.out Hfin.out h, fun h i _ => by rw [h]⟩
            have HQ2 : Hid (∀ bq : Bool, (bq = true ↔ ∀ i, i < n → aft fs i = aft es i) → bq = tb) := fun bq hq => by
              rw [← Htb.out, Bool.eq_iff_iff, decide_eq_true_iff, hq]
              exact ⟨fun h => (eq_of_aft Hfnm.out Hnm.out Hfin.out Hin.out h).symm, fun h i _ => by rw [h]⟩
            have e0 := cellL (HTz.out.cell (i := 0) rfl) HBzd.out
            have e1 := cellL (HTz.out.cell (i := 1) rfl) HBzd.out
            simp only [List.append_eq, List.cons_append, List.nil_append]
            refine wp_region_held_drew (S := (fun W => W.cell? ⟨t, 0, none⟩ = some (.int .i64 (n : Int)) ∧ W.cell? ⟨t, 1, none⟩ = some (.slice ga es.length gc))) (by kernel_rfl) (⟨e0, e1⟩) (fun hHd0 => ?_)
            refine wpAnyH_take (i := 0) (v := ?_) rfl (by kernel_rfl) (by kernel_rfl) (by kernel_rfl) (fun _ _ _ h => h) (Or.inl ⟨by rfl, ?_⟩) (by assumption) ?_
            rotate_left
            · (intro wx hSw; (try dsimp only at hSw); go_simp <;> with_reducible rfl)
            try simp only [Act.put, List.setIfInBounds_toArray, List.set_cons_zero, List.set_cons_succ, List.getElem_toArray, List.getElem_cons_zero, List.getElem_cons_succ]
            refine wpAnyH_take (i := 1) (v := ?_) rfl (by kernel_rfl) (by kernel_rfl) (by kernel_rfl) (fun _ _ _ h => h) (Or.inl ⟨by rfl, ?_⟩) (by assumption) ?_
            rotate_left
            · (intro wx hSw; (try dsimp only at hSw); go_simp <;> with_reducible rfl)
            try simp only [Act.put, List.setIfInBounds_toArray, List.set_cons_zero, List.set_cons_succ, List.getElem_toArray, List.getElem_cons_zero, List.getElem_cons_succ]
            refine wpAnyH_take (i := 3) (v := ?_) rfl (by kernel_rfl) (by kernel_rfl) (by kernel_rfl) (fun _ _ _ h => h) (Or.inl ⟨by rfl, ?_⟩) (by assumption) ?_
            rotate_left
            · (intro wx hSw; (try dsimp only at hSw); go_simp <;> with_reducible rfl)
            try simp only [Act.put, List.setIfInBounds_toArray, List.set_cons_zero, List.set_cons_succ, List.getElem_toArray, List.getElem_cons_zero, List.getElem_cons_succ]
            as_aux_lemma =>
              refine wpAnyH_ready (rs := [2]) (by kernel_rfl) (by simp) ?_
              refine AllReadyH.cons rfl (fun K hK => ?_) AllReadyH.nil
              go_simp
              go_at_call 36
              with_reducible refine (gEqual_any (HGd.out _ (((Below.refl wd.heap.size wd)).drew)) (HHd.out _ (((Below.refl wd.heap.size wd)).drew))).mono ?_
              rintro r zd1 ⟨bq, rfl, hq, hb⟩
              have HBd1 : Hid (Below wd.heap.size wd zd1) := (((Below.refl wd.heap.size wd)).drew).trans (hb.mono (((Below.refl wd.heap.size wd)).drew).size)
              rw [HQ1.out _ hq]
              clear hq
              go_wp2_with fail
              refine hK.out _ _ (⟨cellL hHd0.1 hb, cellL hHd0.2 hb⟩) (fun hHd1 => ?_)
              clear hK K hHd0
              try simp only [Act.put, List.setIfInBounds_toArray, List.set_cons_zero, List.set_cons_succ, List.getElem_toArray, List.getElem_cons_zero, List.getElem_cons_succ]
              clear hb
              refine wpAnyH_take (i := 4) (v := ?_) rfl (by kernel_rfl) (by kernel_rfl) (by kernel_rfl) (fun _ _ _ h => h) (Or.inl ⟨by rfl, ?_⟩) (by assumption) ?_
              rotate_left
              · (intro wx hSw; (try dsimp only at hSw); go_simp <;> with_reducible rfl)
              try simp only [Act.put, List.setIfInBounds_toArray, List.set_cons_zero, List.set_cons_succ, List.getElem_toArray, List.getElem_cons_zero, List.getElem_cons_succ]
              refine wpAnyH_take (i := 5) (v := ?_) rfl (by kernel_rfl) (by kernel_rfl) (by kernel_rfl) (fun _ _ _ h => h) (Or.inl ⟨by rfl, ?_⟩) (by assumption) ?_
              rotate_left
              · (intro wx hSw; (try dsimp only at hSw); go_simp <;> with_reducible rfl)
              try simp only [Act.put, List.setIfInBounds_toArray, List.set_cons_zero, List.set_cons_succ, List.getElem_toArray, List.getElem_cons_zero, List.getElem_cons_succ]
              refine wpAnyH_take (i := 6) (v := ?_) rfl (by kernel_rfl) (by kernel_rfl) (by kernel_rfl) (fun _ _ _ h => h) (Or.inl ⟨by rfl, ?_⟩) (by assumption) ?_
              rotate_left
              · (intro wx hSw; (try dsimp only at hSw); go_simp <;> with_reducible rfl)
              try simp only [Act.put, List.setIfInBounds_toArray, List.set_cons_zero, List.set_cons_succ, List.getElem_toArray, List.getElem_cons_zero, List.getElem_cons_succ]
              refine wpAnyH_take (i := 7) (v := ?_) rfl (by kernel_rfl) (by kernel_rfl) (by kernel_rfl) (fun _ _ _ h => h) (Or.inl ⟨by rfl, ?_⟩) (by assumption) ?_
              rotate_left
              · (intro wx hSw; (try dsimp only at hSw); go_simp <;> with_reducible rfl)
              try simp only [Act.put, List.setIfInBounds_toArray, List.set_cons_zero, List.set_cons_succ, List.getElem_toArray, List.getElem_cons_zero, List.getElem_cons_succ]
              refine wpAnyH_take (i := 9) (v := ?_) rfl (by kernel_rfl) (by kernel_rfl) (by kernel_rfl) (fun _ _ _ h => h) (Or.inl ⟨by rfl, ?_⟩) (by assumption) ?_
              rotate_left
              · (intro wx hSw; (try dsimp only at hSw); go_simp <;> with_reducible rfl)
              try simp only [Act.put, List.setIfInBounds_toArray, List.set_cons_zero, List.set_cons_succ, List.getElem_toArray, List.getElem_cons_zero, List.getElem_cons_succ]
              refine wpAnyH_ready (rs := [8]) (by kernel_rfl) (by simp) ?_
              refine AllReadyH.cons rfl (fun K hK => ?_) AllReadyH.nil
              go_simp
              go_at_call 36
              with_reducible refine (gEqual_any (HHd.out zd1 (HBd1.out)) (HGd.out zd1 (HBd1.out))).mono ?_
              rintro r zd2 ⟨bq2, rfl, hq, hb⟩
              have HBd2 : Hid (Below wd.heap.size wd zd2) := (HBd1.out).trans (hb.mono (HBd1.out).size)
              rw [HQ2.out _ hq]
              clear hq
              go_wp2_with fail
              refine hK.out _ _ (⟨cellL hHd1.1 hb, cellL hHd1.2 hb⟩) (fun hHd2 => ?_)
              clear hK K hHd1
              try simp only [Act.put, List.setIfInBounds_toArray, List.set_cons_zero, List.set_cons_succ, List.getElem_toArray, List.getElem_cons_zero, List.getElem_cons_succ]
              clear hb
              refine wpAnyH_take (i := 10) (v := ?_) rfl (by kernel_rfl) (by kernel_rfl) (by kernel_rfl) (fun _ _ _ h => h) (Or.inl ⟨by rfl, ?_⟩) (by assumption) ?_
              rotate_left
              · (intro wx hSw; (try dsimp only at hSw); go_simp <;> with_reducible rfl)
              try simp only [Act.put, List.setIfInBounds_toArray, List.set_cons_zero, List.set_cons_succ, List.getElem_toArray, List.getElem_cons_zero, List.getElem_cons_succ]
              refine wpAnyH_take (i := 11) (v := ?_) rfl (by kernel_rfl) (by kernel_rfl) (by kernel_rfl) (fun _ _ _ h => h) (Or.inl ⟨by rfl, ?_⟩) (by assumption) ?_
              rotate_left
              · (intro wx hSw; (try dsimp only at hSw); go_simp <;> with_reducible rfl)
              try simp only [Act.put, List.setIfInBounds_toArray, List.set_cons_zero, List.set_cons_succ, List.getElem_toArray, List.getElem_cons_zero, List.getElem_cons_succ]
              refine wpAnyH_take (i := 12) (v := ?_) rfl (by kernel_rfl) (by kernel_rfl) (by kernel_rfl) (fun _ _ _ h => h) (Or.inl ⟨by rfl, ?_⟩) (by assumption) ?_
              rotate_left
              · (intro wx hSw; (try dsimp only at hSw); go_simp <;> with_reducible rfl)
              try simp only [Act.put, List.setIfInBounds_toArray, List.set_cons_zero, List.set_cons_succ, List.getElem_toArray, List.getElem_cons_zero, List.getElem_cons_succ]
              refine wpAnyH_take (i := 13) (v := ?_) rfl (by kernel_rfl) (by kernel_rfl) (by kernel_rfl) (fun _ _ _ h => h) (Or.inl ⟨by rfl, ?_⟩) (by assumption) ?_
              rotate_left
              · (intro wx hSw; (try dsimp only at hSw); go_simp <;> with_reducible rfl)
              try simp only [Act.put, List.setIfInBounds_toArray, List.set_cons_zero, List.set_cons_succ, List.getElem_toArray, List.getElem_cons_zero, List.getElem_cons_succ]
              refine wpAnyH_take (i := 15) (v := ?_) rfl (by kernel_rfl) (by kernel_rfl) (by kernel_rfl) (fun _ _ _ h => h) (Or.inl ⟨by rfl, ?_⟩) (by assumption) ?_
              rotate_left
              · (intro wx hSw; (try dsimp only at hSw); go_simp <;> with_reducible rfl)
              try simp only [Act.put, List.setIfInBounds_toArray, List.set_cons_zero, List.set_cons_succ, List.getElem_toArray, List.getElem_cons_zero, List.getElem_cons_succ]
              refine wpAnyH_take (i := 16) (v := ?_) rfl (by kernel_rfl) (by kernel_rfl) (by kernel_rfl) (fun _ _ _ h => h) (Or.inl ⟨by rfl, ?_⟩) (by assumption) ?_
              rotate_left
              · (intro wx hSw; (try dsimp only at hSw); go_simp <;> with_reducible rfl)
              try simp only [Act.put, List.setIfInBounds_toArray, List.set_cons_zero, List.set_cons_succ, List.getElem_toArray, List.getElem_cons_zero, List.getElem_cons_succ]
              as_aux_lemma =>
                refine wpAnyH_ready (rs := [14]) (by kernel_rfl) (by simp) ?_
                refine AllReadyH.cons rfl (fun K hK => ?_) AllReadyH.nil
                go_simp
                go_at_call 25
                with_reducible refine (edges_any (HGd.out zd2 (HBd2.out)) HeL.out).mono ?_
                rintro r zd3 ⟨u1, rfl, ho, hb⟩
                have HBd3 : Hid (Below wd.heap.size wd zd3) := (HBd2.out).trans (hb.mono (HBd2.out).size)
                rw [Hed.out] at ho
                have HS := Lib.hid (sameEdges_any ho.row ((HOd.out zd3 HBd3.out).row) (by rw [List.length_map]; have := Hn.out; omega))
                clear ho
                go_wp2_with fail
                refine hK.out _ _ (⟨cellL hHd2.1 hb, cellL hHd2.2 hb⟩) (fun hHd3 => ?_)
                clear hK K hHd2
                try simp only [Act.put, List.setIfInBounds_toArray, List.set_cons_zero, List.set_cons_succ, List.getElem_toArray, List.getElem_cons_zero, List.getElem_cons_succ]
                clear hb
                refine wpAnyH_ready (rs := [17]) (by kernel_rfl) (by simp) ?_
                refine AllReadyH.cons rfl (fun K hK => ?_) AllReadyH.nil
                go_simp
                go_at_call 24
                with_reducible refine (HS.out).mono ?_
                rintro r zd4 ⟨rfl, hb⟩
                have HBd4 : Hid (Below wd.heap.size wd zd4) := (HBd3.out).trans (hb.mono (HBd3.out).size)
                clear HS
                go_wp2_with fail
                refine hK.out _ _ (⟨cellL hHd3.1 hb, cellL hHd3.2 hb⟩) (fun hHd4 => ?_)
                clear hK K hHd3
                try simp only [Act.put, List.setIfInBounds_toArray, List.set_cons_zero, List.set_cons_succ, List.getElem_toArray, List.getElem_cons_zero, List.getElem_cons_succ]
                clear hb
                refine wpAnyH_take (i := 18) (v := ?_) rfl (by kernel_rfl) (by kernel_rfl) (by kernel_rfl) (fun _ _ _ h => h) (Or.inl ⟨by rfl, ?_⟩) (by assumption) ?_
                rotate_left
                · (intro wx hSw; (try dsimp only at hSw); go_simp <;> with_reducible rfl)
                try simp only [Act.put, List.setIfInBounds_toArray, List.set_cons_zero, List.set_cons_succ, List.getElem_toArray, List.getElem_cons_zero, List.getElem_cons_succ]
                refine wpAnyH_take (i := 19) (v := ?_) rfl (by kernel_rfl) (by kernel_rfl) (by kernel_rfl) (fun _ _ _ h => h) (Or.inl ⟨by rfl, ?_⟩) (by assumption) ?_
                rotate_left
                · (intro wx hSw; (try dsimp only at hSw); go_simp <;> with_reducible rfl)
                try simp only [Act.put, List.setIfInBounds_toArray, List.set_cons_zero, List.set_cons_succ, List.getElem_toArray, List.getElem_cons_zero, List.getElem_cons_succ]
                refine wpAnyH_take (i := 20) (v := ?_) rfl (by kernel_rfl) (by kernel_rfl) (by kernel_rfl) (fun _ _ _ h => h) (Or.inl ⟨by rfl, ?_⟩) (by assumption) ?_
                rotate_left
                · (intro wx hSw; (try dsimp only at hSw); go_simp <;> with_reducible rfl)
                try simp only [Act.put, List.setIfInBounds_toArray, List.set_cons_zero, List.set_cons_succ, List.getElem_toArray, List.getElem_cons_zero, List.getElem_cons_succ]
                refine wpAnyH_take (i := 22) (v := ?_) rfl (by kernel_rfl) (by kernel_rfl) (by kernel_rfl) (fun _ _ _ h => h) (Or.inl ⟨by rfl, ?_⟩) (by assumption) ?_
                rotate_left
                · (intro wx hSw; (try dsimp only at hSw); go_simp <;> with_reducible rfl)
                try simp only [Act.put, List.setIfInBounds_toArray, List.set_cons_zero, List.set_cons_succ, List.getElem_toArray, List.getElem_cons_zero, List.getElem_cons_succ]
                refine wpAnyH_ready (rs := [21]) (by kernel_rfl) (by simp) ?_
                refine AllReadyH.cons rfl (fun K hK => ?_) AllReadyH.nil
                go_simp
                go_at_call 30
                with_reducible refine (after_r (HGd.out zd4 (HBd4.out)) Hin.out 0).mono ?_
                rintro r zd5 ⟨u2, rfl, hr, hb⟩
                have HBd5 : Hid (Below wd.heap.size wd zd5) := (HBd4.out).trans (hb.mono (HBd4.out).size)
                have Hr1 := Lib.hid hr
                clear hr
                go_wp2_with fail
                refine hK.out _ _ (⟨cellL hHd4.1 hb, cellL hHd4.2 hb⟩) (fun hHd5 => ?_)
                clear hK K hHd4
                try simp only [Act.put, List.setIfInBounds_toArray, List.set_cons_zero, List.set_cons_succ, List.getElem_toArray, List.getElem_cons_zero, List.getElem_cons_succ]
                clear hb
                refine wpAnyH_ready (rs := [23]) (by kernel_rfl) (by simp) ?_
                refine AllReadyH.cons rfl (fun K hK => ?_) AllReadyH.nil
                go_simp
                go_at_call 31
                with_reducible refine (rafter_r (n := (n : Int)) ((HOd.out zd5 (HBd5.out)).row) (by have := Hn.out; omega) 0).mono ?_
                rintro r zd6 ⟨u3, rfl, hr, hb⟩
                have HBd6 : Hid (Below wd.heap.size wd zd6) := (HBd5.out).trans (hb.mono (HBd5.out).size)
                have HS := Lib.hid (same_i (Hr1.out.later hb) hr (by have := aftI_le (es.map ofEd) 0; rw [List.length_map] at this; have := Hn.out; omega))
                clear hr Hr1
                go_wp2_with fail
                refine hK.out _ _ (⟨cellL hHd5.1 hb, cellL hHd5.2 hb⟩) (fun hHd6 => ?_)
                clear hK K hHd5
                try simp only [Act.put, List.setIfInBounds_toArray, List.set_cons_zero, List.set_cons_succ, List.getElem_toArray, List.getElem_cons_zero, List.getElem_cons_succ]
                clear hb
                refine wpAnyH_ready (rs := [24]) (by kernel_rfl) (by simp) ?_
                refine AllReadyH.cons rfl (fun K hK => ?_) AllReadyH.nil
                go_simp
                go_at_call 15
                with_reducible refine (HS.out).mono ?_
                rintro r zd7 ⟨rfl, hb⟩
                have HBd7 : Hid (Below wd.heap.size wd zd7) := (HBd6.out).trans (hb.mono (HBd6.out).size)
                clear HS
                go_wp2_with fail
                refine hK.out _ _ (⟨cellL hHd6.1 hb, cellL hHd6.2 hb⟩) (fun hHd7 => ?_)
                clear hK K hHd6
                try simp only [Act.put, List.setIfInBounds_toArray, List.set_cons_zero, List.set_cons_succ, List.getElem_toArray, List.getElem_cons_zero, List.getElem_cons_succ]
                clear hb
                refine wpAnyH_take (i := 25) (v := ?_) rfl (by kernel_rfl) (by kernel_rfl) (by kernel_rfl) (fun _ _ _ h => h) (Or.inl ⟨by rfl, ?_⟩) (by assumption) ?_
                rotate_left
                · (intro wx hSw; (try dsimp only at hSw); go_simp <;> with_reducible rfl)
                try simp only [Act.put, List.setIfInBounds_toArray, List.set_cons_zero, List.set_cons_succ, List.getElem_toArray, List.getElem_cons_zero, List.getElem_cons_succ]
                refine wpAnyH_take (i := 26) (v := ?_) rfl (by kernel_rfl) (by kernel_rfl) (by kernel_rfl) (fun _ _ _ h => h) (Or.inl ⟨by rfl, ?_⟩) (by assumption) ?_
                rotate_left
                · (intro wx hSw; (try dsimp only at hSw); go_simp <;> with_reducible rfl)
                try simp only [Act.put, List.setIfInBounds_toArray, List.set_cons_zero, List.set_cons_succ, List.getElem_toArray, List.getElem_cons_zero, List.getElem_cons_succ]
                refine wpAnyH_take (i := 27) (v := ?_) rfl (by kernel_rfl) (by kernel_rfl) (by kernel_rfl) (fun _ _ _ h => h) (Or.inl ⟨by rfl, ?_⟩) (by assumption) ?_
                rotate_left
                · (intro wx hSw; (try dsimp only at hSw); go_simp <;> with_reducible rfl)
                try simp only [Act.put, List.setIfInBounds_toArray, List.set_cons_zero, List.set_cons_succ, List.getElem_toArray, List.getElem_cons_zero, List.getElem_cons_succ]
                as_aux_lemma =>
                  refine wpAnyH_ready (rs := [28]) (by kernel_rfl) (by simp) ?_
                  refine AllReadyH.cons rfl (fun K hK => ?_) AllReadyH.nil
                  go_simp
                  go_at_call 23
                  with_reducible refine (calls_keep (nodes_nil zd7)).mono ?_
                  rintro r zd8 ⟨rfl, hb⟩
                  have HBd8 : Hid (Below wd.heap.size wd zd8) := (HBd7.out).trans (hb.mono (HBd7.out).size)
                  go_wp2_with fail
                  refine hK.out _ _ (⟨cellL hHd7.1 hb, cellL hHd7.2 hb⟩) (fun hHd8 => ?_)
                  clear hK K hHd7
                  try simp only [Act.put, List.setIfInBounds_toArray, List.set_cons_zero, List.set_cons_succ, List.getElem_toArray, List.getElem_cons_zero, List.getElem_cons_succ]
                  clear hb
                  refine wpAnyH_take (i := 29) (v := ?_) rfl (by kernel_rfl) (by kernel_rfl) (by kernel_rfl) (fun _ _ _ h => h) (Or.inl ⟨by rfl, ?_⟩) (by assumption) ?_
                  rotate_left
                  · (intro wx hSw; (try dsimp only at hSw); go_simp <;> with_reducible rfl)
                  try simp only [Act.put, List.setIfInBounds_toArray, List.set_cons_zero, List.set_cons_succ, List.getElem_toArray, List.getElem_cons_zero, List.getElem_cons_succ]
                  refine wpAnyH_take (i := 30) (v := ?_) rfl (by kernel_rfl) (by kernel_rfl) (by kernel_rfl) (fun _ _ _ h => h) (Or.inl ⟨by rfl, ?_⟩) (by assumption) ?_
                  rotate_left
                  · (intro wx hSw; (try dsimp only at hSw); go_simp <;> with_reducible rfl)
                  try simp only [Act.put, List.setIfInBounds_toArray, List.set_cons_zero, List.set_cons_succ, List.getElem_toArray, List.getElem_cons_zero, List.getElem_cons_succ]
                  refine wpAnyH_take (i := 31) (v := ?_) rfl (by kernel_rfl) (by kernel_rfl) (by kernel_rfl) (fun _ _ _ h => h) (Or.inl ⟨by rfl, ?_⟩) (by assumption) ?_
                  rotate_left
                  · (intro wx hSw; (try dsimp only at hSw); go_simp <;> with_reducible rfl)
                  try simp only [Act.put, List.setIfInBounds_toArray, List.set_cons_zero, List.set_cons_succ, List.getElem_toArray, List.getElem_cons_zero, List.getElem_cons_succ]
                  refine wpAnyH_take (i := 32) (v := ?_) rfl (by kernel_rfl) (by kernel_rfl) (by kernel_rfl) (fun _ _ _ h => h) (Or.inl ⟨by rfl, ?_⟩) (by assumption) ?_
                  rotate_left
                  · (intro wx hSw; (try dsimp only at hSw); go_simp <;> with_reducible rfl)
                  try simp only [Act.put, List.setIfInBounds_toArray, List.set_cons_zero, List.set_cons_succ, List.getElem_toArray, List.getElem_cons_zero, List.getElem_cons_succ]
                  refine wpAnyH_ready (rs := [33]) (by kernel_rfl) (by simp) ?_
                  refine AllReadyH.cons rfl (fun K hK => ?_) AllReadyH.nil
                  go_simp
                  go_at_call 25
                  with_reducible refine (calls_keep (edges_nil zd8)).mono ?_
                  rintro r zd9 ⟨rfl, hb⟩
                  have HBd9 : Hid (Below wd.heap.size wd zd9) := (HBd8.out).trans (hb.mono (HBd8.out).size)
                  go_wp2_with fail
                  refine hK.out _ _ (⟨cellL hHd8.1 hb, cellL hHd8.2 hb⟩) (fun hHd9 => ?_)
                  clear hK K hHd8
                  try simp only [Act.put, List.setIfInBounds_toArray, List.set_cons_zero, List.set_cons_succ, List.getElem_toArray, List.getElem_cons_zero, List.getElem_cons_succ]
                  clear hb
                  refine wpAnyH_take (i := 34) (v := ?_) rfl (by kernel_rfl) (by kernel_rfl) (by kernel_rfl) (fun _ _ _ h => h) (Or.inl ⟨by rfl, ?_⟩) (by assumption) ?_
                  rotate_left
                  · (intro wx hSw; (try dsimp only at hSw); go_simp <;> with_reducible rfl)
                  try simp only [Act.put, List.setIfInBounds_toArray, List.set_cons_zero, List.set_cons_succ, List.getElem_toArray, List.getElem_cons_zero, List.getElem_cons_succ]
                  refine wpAnyH_take (i := 35) (v := ?_) rfl (by kernel_rfl) (by kernel_rfl) (by kernel_rfl) (fun _ _ _ h => h) (Or.inl ⟨by rfl, ?_⟩) (by assumption) ?_
                  rotate_left
                  · (intro wx hSw; (try dsimp only at hSw); go_simp <;> with_reducible rfl)
                  try simp only [Act.put, List.setIfInBounds_toArray, List.set_cons_zero, List.set_cons_succ, List.getElem_toArray, List.getElem_cons_zero, List.getElem_cons_succ]
                  refine wpAnyH_take (i := 36) (v := ?_) rfl (by kernel_rfl) (by kernel_rfl) (by kernel_rfl) (fun _ _ _ h => h) (Or.inl ⟨by rfl, ?_⟩) (by assumption) ?_
                  rotate_left
                  · (intro wx hSw; (try dsimp only at hSw); go_simp <;> with_reducible rfl)
                  try simp only [Act.put, List.setIfInBounds_toArray, List.set_cons_zero, List.set_cons_succ, List.getElem_toArray, List.getElem_cons_zero, List.getElem_cons_succ]
                  refine wpAnyH_take (i := 37) (v := ?_) rfl (by kernel_rfl) (by kernel_rfl) (by kernel_rfl) (fun _ _ _ h => h) (Or.inl ⟨by rfl, ?_⟩) (by assumption) ?_
                  rotate_left
                  · (intro wx hSw; (try dsimp only at hSw); go_simp <;> with_reducible rfl)
                  try simp only [Act.put, List.setIfInBounds_toArray, List.set_cons_zero, List.set_cons_succ, List.getElem_toArray, List.getElem_cons_zero, List.getElem_cons_succ]
                  refine wpAnyH_take (i := 38) (v := ?_) rfl (by kernel_rfl) (by kernel_rfl) (by kernel_rfl) (fun _ _ _ h => h) (Or.inl ⟨by rfl, ?_⟩) (by assumption) ?_
                  rotate_left
                  · (intro wx hSw; (try dsimp only at hSw); go_simp <;> with_reducible rfl)
                  try simp only [Act.put, List.setIfInBounds_toArray, List.set_cons_zero, List.set_cons_succ, List.getElem_toArray, List.getElem_cons_zero, List.getElem_cons_succ]
                  refine wpAnyH_ready (rs := [39]) (by kernel_rfl) (by simp) ?_
                  refine AllReadyH.cons rfl (fun K hK => ?_) AllReadyH.nil
                  go_simp
                  go_at_call 30
                  with_reducible refine (calls_keep (gAfter_nil zd9 0)).mono ?_
                  rintro r zd10 ⟨rfl, hb⟩
                  have HBd10 : Hid (Below wd.heap.size wd zd10) := (HBd9.out).trans (hb.mono (HBd9.out).size)
                  go_wp2_with fail
                  refine hK.out _ _ (⟨cellL hHd9.1 hb, cellL hHd9.2 hb⟩) (fun hHd10 => ?_)
                  clear hK K hHd9
                  try simp only [Act.put, List.setIfInBounds_toArray, List.set_cons_zero, List.set_cons_succ, List.getElem_toArray, List.getElem_cons_zero, List.getElem_cons_succ]
                  clear hb
                  refine wpAnyH_take (i := 40) (v := ?_) rfl (by kernel_rfl) (by kernel_rfl) (by kernel_rfl) (fun _ _ _ h => h) (Or.inl ⟨by rfl, ?_⟩) (by assumption) ?_
                  rotate_left
                  · (intro wx hSw; (try dsimp only at hSw); go_simp <;> with_reducible rfl)
                  try simp only [Act.put, List.setIfInBounds_toArray, List.set_cons_zero, List.set_cons_succ, List.getElem_toArray, List.getElem_cons_zero, List.getElem_cons_succ]
                  refine wpAnyH_take (i := 41) (v := ?_) rfl (by kernel_rfl) (by kernel_rfl) (by kernel_rfl) (fun _ _ _ h => h) (Or.inl ⟨by rfl, ?_⟩) (by assumption) ?_
                  rotate_left
                  · (intro wx hSw; (try dsimp only at hSw); go_simp <;> with_reducible rfl)
                  try simp only [Act.put, List.setIfInBounds_toArray, List.set_cons_zero, List.set_cons_succ, List.getElem_toArray, List.getElem_cons_zero, List.getElem_cons_succ]
                  refine wpAnyH_take (i := 42) (v := ?_) rfl (by kernel_rfl) (by kernel_rfl) (by kernel_rfl) (fun _ _ _ h => h) (Or.inl ⟨by rfl, ?_⟩) (by assumption) ?_
                  rotate_left
                  · (intro wx hSw; (try dsimp only at hSw); go_simp <;> with_reducible rfl)
                  try simp only [Act.put, List.setIfInBounds_toArray, List.set_cons_zero, List.set_cons_succ, List.getElem_toArray, List.getElem_cons_zero, List.getElem_cons_succ]
                  refine wpAnyH_take (i := 43) (v := ?_) rfl (by kernel_rfl) (by kernel_rfl) (by kernel_rfl) (fun _ _ _ h => h) (Or.inl ⟨by rfl, ?_⟩) (by assumption) ?_
                  rotate_left
                  · (intro wx hSw; (try dsimp only at hSw); go_simp <;> with_reducible rfl)
                  try simp only [Act.put, List.setIfInBounds_toArray, List.set_cons_zero, List.set_cons_succ, List.getElem_toArray, List.getElem_cons_zero, List.getElem_cons_succ]
                  refine wpAnyH_take (i := 44) (v := ?_) rfl (by kernel_rfl) (by kernel_rfl) (by kernel_rfl) (fun _ _ _ h => h) (Or.inl ⟨by rfl, ?_⟩) (by assumption) ?_
                  rotate_left
                  · (intro wx hSw; (try dsimp only at hSw); go_simp <;> with_reducible rfl)
                  try simp only [Act.put, List.setIfInBounds_toArray, List.set_cons_zero, List.set_cons_succ, List.getElem_toArray, List.getElem_cons_zero, List.getElem_cons_succ]
                  as_aux_lemma =>
                    refine wpAnyH_ready (rs := [45]) (by kernel_rfl) (by simp) ?_
                    refine AllReadyH.cons rfl (fun K hK => ?_) AllReadyH.nil
                    go_simp
                    go_at_call 32
                    with_reducible refine (calls_keep (gBefore_nil zd10 0)).mono ?_
                    rintro r zd11 ⟨rfl, hb⟩
                    have HBd11 : Hid (Below wd.heap.size wd zd11) := (HBd10.out).trans (hb.mono (HBd10.out).size)
                    go_wp2_with fail
                    refine hK.out _ _ (⟨cellL hHd10.1 hb, cellL hHd10.2 hb⟩) (fun hHd11 => ?_)
                    clear hK K hHd10
                    try simp only [Act.put, List.setIfInBounds_toArray, List.set_cons_zero, List.set_cons_succ, List.getElem_toArray, List.getElem_cons_zero, List.getElem_cons_succ]
                    clear hb
                    refine wpAnyH_take (i := 46) (v := ?_) rfl (by kernel_rfl) (by kernel_rfl) (by kernel_rfl) (fun _ _ _ h => h) (Or.inl ⟨by rfl, ?_⟩) (by assumption) ?_
                    rotate_left
                    · (intro wx hSw; (try dsimp only at hSw); go_simp <;> with_reducible rfl)
                    try simp only [Act.put, List.setIfInBounds_toArray, List.set_cons_zero, List.set_cons_succ, List.getElem_toArray, List.getElem_cons_zero, List.getElem_cons_succ]
                    refine wpAnyH_take (i := 47) (v := ?_) rfl (by kernel_rfl) (by kernel_rfl) (by kernel_rfl) (fun _ _ _ h => h) (Or.inl ⟨by rfl, ?_⟩) (by assumption) ?_
                    rotate_left
                    · (intro wx hSw; (try dsimp only at hSw); go_simp <;> with_reducible rfl)
                    try simp only [Act.put, List.setIfInBounds_toArray, List.set_cons_zero, List.set_cons_succ, List.getElem_toArray, List.getElem_cons_zero, List.getElem_cons_succ]
                    refine wpAnyH_take (i := 48) (v := ?_) rfl (by kernel_rfl) (by kernel_rfl) (by kernel_rfl) (fun _ _ _ h => h) (Or.inl ⟨by rfl, ?_⟩) (by assumption) ?_
                    rotate_left
                    · (intro wx hSw; (try dsimp only at hSw); go_simp <;> with_reducible rfl)
                    try simp only [Act.put, List.setIfInBounds_toArray, List.set_cons_zero, List.set_cons_succ, List.getElem_toArray, List.getElem_cons_zero, List.getElem_cons_succ]
                    refine wpAnyH_take (i := 49) (v := ?_) rfl (by kernel_rfl) (by kernel_rfl) (by kernel_rfl) (fun _ _ _ h => h) (Or.inl ⟨by rfl, ?_⟩) (by assumption) ?_
                    rotate_left
                    · (intro wx hSw; (try dsimp only at hSw); go_simp <;> with_reducible rfl)
                    try simp only [Act.put, List.setIfInBounds_toArray, List.set_cons_zero, List.set_cons_succ, List.getElem_toArray, List.getElem_cons_zero, List.getElem_cons_succ]
                    refine wpAnyH_take (i := 50) (v := ?_) rfl (by kernel_rfl) (by kernel_rfl) (by kernel_rfl) (fun _ _ _ h => h) (Or.inl ⟨by rfl, ?_⟩) (by assumption) ?_
                    rotate_left
                    · (intro wx hSw; (try dsimp only at hSw); go_simp <;> with_reducible rfl)
                    try simp only [Act.put, List.setIfInBounds_toArray, List.set_cons_zero, List.set_cons_succ, List.getElem_toArray, List.getElem_cons_zero, List.getElem_cons_succ]
                    refine wpAnyH_ready (rs := [51]) (by kernel_rfl) (by simp) ?_
                    refine AllReadyH.cons rfl (fun K hK => ?_) AllReadyH.nil
                    go_simp
                    go_at_call 28
                    with_reducible refine (calls_keep (hasEdge_nil zd11 0 0)).mono ?_
                    rintro r zd12 ⟨rfl, hb⟩
                    have HBd12 : Hid (Below wd.heap.size wd zd12) := (HBd11.out).trans (hb.mono (HBd11.out).size)
                    go_wp2_with fail
                    refine hK.out _ _ (⟨cellL hHd11.1 hb, cellL hHd11.2 hb⟩) (fun hHd12 => ?_)
                    clear hK K hHd11
                    try simp only [Act.put, List.setIfInBounds_toArray, List.set_cons_zero, List.set_cons_succ, List.getElem_toArray, List.getElem_cons_zero, List.getElem_cons_succ]
                    clear hb
                    refine wpAnyH_take (i := 52) (v := ?_) rfl (by kernel_rfl) (by kernel_rfl) (by kernel_rfl) (fun _ _ _ h => h) (Or.inl ⟨by rfl, ?_⟩) (by assumption) ?_
                    rotate_left
                    · (intro wx hSw; (try dsimp only at hSw); go_simp <;> with_reducible rfl)
                    try simp only [Act.put, List.setIfInBounds_toArray, List.set_cons_zero, List.set_cons_succ, List.getElem_toArray, List.getElem_cons_zero, List.getElem_cons_succ]
                    refine wpAnyH_take (i := 53) (v := ?_) rfl (by kernel_rfl) (by kernel_rfl) (by kernel_rfl) (fun _ _ _ h => h) (Or.inl ⟨by rfl, ?_⟩) (by assumption) ?_
                    rotate_left
                    · (intro wx hSw; (try dsimp only at hSw); go_simp <;> with_reducible rfl)
                    try simp only [Act.put, List.setIfInBounds_toArray, List.set_cons_zero, List.set_cons_succ, List.getElem_toArray, List.getElem_cons_zero, List.getElem_cons_succ]
                    refine wpAnyH_take (i := 54) (v := ?_) rfl (by kernel_rfl) (by kernel_rfl) (by kernel_rfl) (fun _ _ _ h => h) (Or.inl ⟨by rfl, ?_⟩) (by assumption) ?_
                    rotate_left
                    · (intro wx hSw; (try dsimp only at hSw); go_simp <;> with_reducible rfl)
                    try simp only [Act.put, List.setIfInBounds_toArray, List.set_cons_zero, List.set_cons_succ, List.getElem_toArray, List.getElem_cons_zero, List.getElem_cons_succ]
                    refine wpAnyH_take (i := 55) (v := ?_) rfl (by kernel_rfl) (by kernel_rfl) (by kernel_rfl) (fun _ _ _ h => h) (Or.inl ⟨by rfl, ?_⟩) (by assumption) ?_
                    rotate_left
                    · (intro wx hSw; (try dsimp only at hSw); go_simp <;> with_reducible rfl)
                    try simp only [Act.put, List.setIfInBounds_toArray, List.set_cons_zero, List.set_cons_succ, List.getElem_toArray, List.getElem_cons_zero, List.getElem_cons_succ]
                    refine wpAnyH_ready (rs := [56]) (by kernel_rfl) (by simp) ?_
                    refine AllReadyH.cons rfl (fun K hK => ?_) AllReadyH.nil
                    go_simp
                    go_at_call 34
                    with_reducible refine (reverse_nil zd12).mono ?_
                    rintro r zd13 ⟨rfl, hb⟩
                    have HBd13 : Hid (Below wd.heap.size wd zd13) := (HBd12.out).trans (hb.mono (HBd12.out).size)
                    go_wp2_with fail
                    refine hK.out _ _ (⟨cellL hHd12.1 hb, cellL hHd12.2 hb⟩) (fun hHd13 => ?_)
                    clear hK K hHd12
                    try simp only [Act.put, List.setIfInBounds_toArray, List.set_cons_zero, List.set_cons_succ, List.getElem_toArray, List.getElem_cons_zero, List.getElem_cons_succ]
                    clear hb
                    refine wpAnyH_take (i := 57) (v := ?_) rfl (by kernel_rfl) (by kernel_rfl) (by kernel_rfl) (fun _ _ _ h => h) (Or.inl ⟨by rfl, ?_⟩) (by assumption) ?_
                    rotate_left
                    · (intro wx hSw; (try dsimp only at hSw); go_simp <;> with_reducible rfl)
                    try simp only [Act.put, List.setIfInBounds_toArray, List.set_cons_zero, List.set_cons_succ, List.getElem_toArray, List.getElem_cons_zero, List.getElem_cons_succ]
                    refine wpAnyH_take (i := 58) (v := ?_) rfl (by kernel_rfl) (by kernel_rfl) (by kernel_rfl) (fun _ _ _ h => h) (Or.inl ⟨by rfl, ?_⟩) (by assumption) ?_
                    rotate_left
                    · (intro wx hSw; (try dsimp only at hSw); go_simp <;> with_reducible rfl)
                    try simp only [Act.put, List.setIfInBounds_toArray, List.set_cons_zero, List.set_cons_succ, List.getElem_toArray, List.getElem_cons_zero, List.getElem_cons_succ]
                    refine wpAnyH_take (i := 59) (v := ?_) rfl (by kernel_rfl) (by kernel_rfl) (by kernel_rfl) (fun _ _ _ h => h) (Or.inl ⟨by rfl, ?_⟩) (by assumption) ?_
                    rotate_left
                    · (intro wx hSw; (try dsimp only at hSw); go_simp <;> with_reducible rfl)
                    try simp only [Act.put, List.setIfInBounds_toArray, List.set_cons_zero, List.set_cons_succ, List.getElem_toArray, List.getElem_cons_zero, List.getElem_cons_succ]
                    refine wpAnyH_take (i := 60) (v := ?_) rfl (by kernel_rfl) (by kernel_rfl) (by kernel_rfl) (fun _ _ _ h => h) (Or.inl ⟨by rfl, ?_⟩) (by assumption) ?_
                    rotate_left
                    · (intro wx hSw; (try dsimp only at hSw); go_simp <;> with_reducible rfl)
                    try simp only [Act.put, List.setIfInBounds_toArray, List.set_cons_zero, List.set_cons_succ, List.getElem_toArray, List.getElem_cons_zero, List.getElem_cons_succ]
                    as_aux_lemma =>
                      refine wpAnyH_ready (rs := [61]) (by kernel_rfl) (by simp) ?_
                      refine AllReadyH.cons rfl (fun K hK => ?_) AllReadyH.nil
                      have hb : Below zd13.heap.size zd13 (zd13.alloc (.cells #[.int .i64 0] 3)) := (Below.refl _ _).alloc (Nat.le_refl _) _
                      have HBd14 : Hid (Below wd.heap.size wd (zd13.alloc (.cells #[.int .i64 0] 3))) := (HBd13.out).trans (hb.mono (HBd13.out).size)
                      go_simp
                      refine hK.out _ _ (⟨cellL hHd13.1 hb, cellL hHd13.2 hb⟩) (fun hHd14 => ?_)
                      clear hK K hHd13
                      try simp only [Act.put, List.setIfInBounds_toArray, List.set_cons_zero, List.set_cons_succ, List.getElem_toArray, List.getElem_cons_zero, List.getElem_cons_succ]
                      clear hb
                      obtain ⟨zd14, hzd14⟩ : ∃ y, (zd13.alloc (.cells #[.int .i64 0] 3)) = y := ⟨_, rfl⟩
                      rw [hzd14] at HBd14 hHd14 ⊢
                      clear hzd14
                      refine wpAnyH_ready (rs := [62]) (by kernel_rfl) (by simp) ?_
                      refine AllReadyH.cons rfl (fun K hK => ?_) AllReadyH.nil
                      go_simp
                      go_at_call 16
                      with_reducible refine (reach_nil zd14 _).mono ?_
                      rintro r zd15 ⟨rfl, hb⟩
                      have HBd15 : Hid (Below wd.heap.size wd zd15) := (HBd14.out).trans (hb.mono (HBd14.out).size)
                      go_wp2_with fail
                      refine hK.out _ _ (⟨cellL hHd14.1 hb, cellL hHd14.2 hb⟩) (fun hHd15 => ?_)
                      clear hK K hHd14
                      try simp only [Act.put, List.setIfInBounds_toArray, List.set_cons_zero, List.set_cons_succ, List.getElem_toArray, List.getElem_cons_zero, List.getElem_cons_succ]
                      clear hb
                      refine wpAnyH_take (i := 63) (v := ?_) rfl (by kernel_rfl) (by kernel_rfl) (by kernel_rfl) (fun _ _ _ h => h) (Or.inl ⟨by rfl, ?_⟩) (by assumption) ?_
                      rotate_left
                      · (intro wx hSw; (try dsimp only at hSw); go_simp <;> with_reducible rfl)
                      try simp only [Act.put, List.setIfInBounds_toArray, List.set_cons_zero, List.set_cons_succ, List.getElem_toArray, List.getElem_cons_zero, List.getElem_cons_succ]
                      refine wpAnyH_take (i := 64) (v := ?_) rfl (by kernel_rfl) (by kernel_rfl) (by kernel_rfl) (fun _ _ _ h => h) (Or.inl ⟨by rfl, ?_⟩) (by assumption) ?_
                      rotate_left
                      · (intro wx hSw; (try dsimp only at hSw); go_simp <;> with_reducible rfl)
                      try simp only [Act.put, List.setIfInBounds_toArray, List.set_cons_zero, List.set_cons_succ, List.getElem_toArray, List.getElem_cons_zero, List.getElem_cons_succ]
                      refine wpAnyH_take (i := 65) (v := ?_) rfl (by kernel_rfl) (by kernel_rfl) (by kernel_rfl) (fun _ _ _ h => h) (Or.inl ⟨by rfl, ?_⟩) (by assumption) ?_
                      rotate_left
                      · (intro wx hSw; (try dsimp only at hSw); go_simp <;> with_reducible rfl)
                      try simp only [Act.put, List.setIfInBounds_toArray, List.set_cons_zero, List.set_cons_succ, List.getElem_toArray, List.getElem_cons_zero, List.getElem_cons_succ]
                      refine wpAnyH_take (i := 66) (v := ?_) rfl (by kernel_rfl) (by kernel_rfl) (by kernel_rfl) (fun _ _ _ h => h) (Or.inl ⟨by rfl, ?_⟩) (by assumption) ?_
                      rotate_left
                      · (intro wx hSw; (try dsimp only at hSw); go_simp <;> with_reducible rfl)
                      try simp only [Act.put, List.setIfInBounds_toArray, List.set_cons_zero, List.set_cons_succ, List.getElem_toArray, List.getElem_cons_zero, List.getElem_cons_succ]
                      refine wpAnyH_take (i := 67) (v := ?_) rfl (by kernel_rfl) (by kernel_rfl) (by kernel_rfl) (fun _ _ _ h => h) (Or.inl ⟨by rfl, ?_⟩) (by assumption) ?_
                      rotate_left
                      · (intro wx hSw; (try dsimp only at hSw); go_simp <;> with_reducible rfl)
                      try simp only [Act.put, List.setIfInBounds_toArray, List.set_cons_zero, List.set_cons_succ, List.getElem_toArray, List.getElem_cons_zero, List.getElem_cons_succ]
                      as_aux_lemma =>
                        refine wpAnyH_ready (rs := [68, 69]) (by kernel_rfl) (by simp) ?_
                        refine AllReadyH.cons rfl (fun K hK => ?_) (AllReadyH.cons rfl (fun K hK => ?_) AllReadyH.nil)
                        all_goals
                          have hb : Below zd15.heap.size zd15 (zd15.alloc (.cells #[.int .i64 0] 3)) := (Below.refl _ _).alloc (Nat.le_refl _) _
                          have HBd16 : Hid (Below wd.heap.size wd (zd15.alloc (.cells #[.int .i64 0] 3))) := (HBd15.out).trans (hb.mono (HBd15.out).size)
                          go_simp
                          refine hK.out _ _ (⟨cellL hHd15.1 hb, cellL hHd15.2 hb⟩) (fun hHd16 => ?_)
                          clear hK K hHd15
                          try simp only [Act.put, List.setIfInBounds_toArray, List.set_cons_zero, List.set_cons_succ, List.getElem_toArray, List.getElem_cons_zero, List.getElem_cons_succ]
                          clear hb
                          obtain ⟨zd16, hzd16⟩ : ∃ y, (zd15.alloc (.cells #[.int .i64 0] 3)) = y := ⟨_, rfl⟩
                          rw [hzd16] at HBd16 hHd16 ⊢
                          clear hzd16
                          first | refine wpAnyH_ready (rs := [69]) (by decide +kernel) (by simp) ?_ | refine wpAnyH_ready (rs := [68]) (by decide +kernel) (by simp) ?_
                          refine AllReadyH.cons rfl (fun K hK => ?_) AllReadyH.nil
                          have hb : Below zd16.heap.size zd16 (zd16.alloc (.cells #[.int .i64 0] 3)) := (Below.refl _ _).alloc (Nat.le_refl _) _
                          have HBd17 : Hid (Below wd.heap.size wd (zd16.alloc (.cells #[.int .i64 0] 3))) := (HBd16.out).trans (hb.mono (HBd16.out).size)
                          go_simp
                          refine hK.out _ _ (⟨cellL hHd16.1 hb, cellL hHd16.2 hb⟩) (fun hHd17 => ?_)
                          clear hK K hHd16
                          try simp only [Act.put, List.setIfInBounds_toArray, List.set_cons_zero, List.set_cons_succ, List.getElem_toArray, List.getElem_cons_zero, List.getElem_cons_succ]
                          clear hb
                          obtain ⟨zd17, hzd17⟩ : ∃ y, (zd16.alloc (.cells #[.int .i64 0] 3)) = y := ⟨_, rfl⟩
                          rw [hzd17] at HBd17 hHd17 ⊢
                          clear hzd17
                          refine wpAnyH_ready (rs := [70]) (by kernel_rfl) (by simp) ?_
                          refine AllReadyH.cons rfl (fun K hK => ?_) AllReadyH.nil
                          go_simp
                          go_at_call 18
                          with_reducible refine (between_nil zd17 _ _).mono ?_
                          rintro r zd18 ⟨rfl, hb⟩
                          have HBd18 : Hid (Below wd.heap.size wd zd18) := (HBd17.out).trans (hb.mono (HBd17.out).size)
                          go_wp2_with fail
                          refine hK.out _ _ (⟨cellL hHd17.1 hb, cellL hHd17.2 hb⟩) (fun hHd18 => ?_)
                          clear hK K hHd17
                          try simp only [Act.put, List.setIfInBounds_toArray, List.set_cons_zero, List.set_cons_succ, List.getElem_toArray, List.getElem_cons_zero, List.getElem_cons_succ]
                          clear hb
                          refine wpAnyH_take (i := 71) (v := ?_) rfl (by kernel_rfl) (by kernel_rfl) (by kernel_rfl) (fun _ _ _ h => h) (Or.inl ⟨by rfl, ?_⟩) (by assumption) ?_
                          rotate_left
                          · (intro wx hSw; (try dsimp only at hSw); go_simp <;> with_reducible rfl)
                          try simp only [Act.put, List.setIfInBounds_toArray, List.set_cons_zero, List.set_cons_succ, List.getElem_toArray, List.getElem_cons_zero, List.getElem_cons_succ]
                          refine wpAnyH_take (i := 72) (v := ?_) rfl (by kernel_rfl) (by kernel_rfl) (by kernel_rfl) (fun _ _ _ h => h) (Or.inl ⟨by rfl, ?_⟩) (by assumption) ?_
                          rotate_left
                          · (intro wx hSw; (try dsimp only at hSw); go_simp <;> with_reducible rfl)
                          try simp only [Act.put, List.setIfInBounds_toArray, List.set_cons_zero, List.set_cons_succ, List.getElem_toArray, List.getElem_cons_zero, List.getElem_cons_succ]
                          refine wpAnyH_take (i := 73) (v := ?_) rfl (by kernel_rfl) (by kernel_rfl) (by kernel_rfl) (fun _ _ _ h => h) (Or.inl ⟨by rfl, ?_⟩) (by assumption) ?_
                          rotate_left
                          · (intro wx hSw; (try dsimp only at hSw); go_simp <;> with_reducible rfl)
                          try simp only [Act.put, List.setIfInBounds_toArray, List.set_cons_zero, List.set_cons_succ, List.getElem_toArray, List.getElem_cons_zero, List.getElem_cons_succ]
                          refine wpAnyH_take (i := 74) (v := ?_) rfl (by kernel_rfl) (by kernel_rfl) (by kernel_rfl) (fun _ _ _ h => h) (Or.inl ⟨by rfl, ?_⟩) (by assumption) ?_
                          rotate_left
                          · (intro wx hSw; (try dsimp only at hSw); go_simp <;> with_reducible rfl)
                          try simp only [Act.put, List.setIfInBounds_toArray, List.set_cons_zero, List.set_cons_succ, List.getElem_toArray, List.getElem_cons_zero, List.getElem_cons_succ]
                          refine wpAnyH_take (i := 75) (v := ?_) rfl (by kernel_rfl) (by kernel_rfl) (by kernel_rfl) (fun _ _ _ h => h) (Or.inl ⟨by rfl, ?_⟩) (by assumption) ?_
                          rotate_left
                          · (intro wx hSw; (try dsimp only at hSw); go_simp <;> with_reducible rfl)
                          try simp only [Act.put, List.setIfInBounds_toArray, List.set_cons_zero, List.set_cons_succ, List.getElem_toArray, List.getElem_cons_zero, List.getElem_cons_succ]
                          refine wpAnyH_take (i := 76) (v := ?_) rfl (by kernel_rfl) (by kernel_rfl) (by kernel_rfl) (fun _ _ _ h => h) (Or.inl ⟨by rfl, ?_⟩) (by assumption) ?_
                          rotate_left
                          · (intro wx hSw; (try dsimp only at hSw); go_simp <;> with_reducible rfl)
                          try simp only [Act.put, List.setIfInBounds_toArray, List.set_cons_zero, List.set_cons_succ, List.getElem_toArray, List.getElem_cons_zero, List.getElem_cons_succ]
                          refine wpAnyH_take (i := 77) (v := ?_) rfl (by kernel_rfl) (by kernel_rfl) (by kernel_rfl) (fun _ _ _ h => h) (Or.inl ⟨by rfl, ?_⟩) (by assumption) ?_
                          rotate_left
                          · (intro wx hSw; (try dsimp only at hSw); go_simp <;> with_reducible rfl)
                          try simp only [Act.put, List.setIfInBounds_toArray, List.set_cons_zero, List.set_cons_succ, List.getElem_toArray, List.getElem_cons_zero, List.getElem_cons_succ]
                          refine wpAnyH_take (i := 78) (v := ?_) rfl (by kernel_rfl) (by kernel_rfl) (by kernel_rfl) (fun _ _ _ h => h) (Or.inl ⟨by rfl, ?_⟩) (by assumption) ?_
                          rotate_left
                          · (intro wx hSw; (try dsimp only at hSw); go_simp <;> with_reducible rfl)
                          try simp only [Act.put, List.setIfInBounds_toArray, List.set_cons_zero, List.set_cons_succ, List.getElem_toArray, List.getElem_cons_zero, List.getElem_cons_succ]
                          refine wpAnyH_take (i := 79) (v := ?_) rfl (by kernel_rfl) (by kernel_rfl) (by kernel_rfl) (fun _ _ _ h => h) (Or.inl ⟨by rfl, ?_⟩) (by assumption) ?_
                          rotate_left
                          · (intro wx hSw; (try dsimp only at hSw); go_simp <;> with_reducible rfl)
                          try simp only [Act.put, List.setIfInBounds_toArray, List.set_cons_zero, List.set_cons_succ, List.getElem_toArray, List.getElem_cons_zero, List.getElem_cons_succ]
                          refine wpAnyH_take (i := 80) (v := ?_) rfl (by kernel_rfl) (by kernel_rfl) (by kernel_rfl) (fun _ _ _ h => h) (Or.inl ⟨by rfl, ?_⟩) (by assumption) ?_
                          rotate_left
                          · (intro wx hSw; (try dsimp only at hSw); go_simp <;> with_reducible rfl)
                          try simp only [Act.put, List.setIfInBounds_toArray, List.set_cons_zero, List.set_cons_succ, List.getElem_toArray, List.getElem_cons_zero, List.getElem_cons_succ]
                          refine wpAnyH_take (i := 81) (v := ?_) rfl (by kernel_rfl) (by kernel_rfl) (by kernel_rfl) (fun _ _ _ h => h) (Or.inl ⟨by rfl, ?_⟩) (by assumption) ?_
                          rotate_left
                          · (intro wx hSw; (try dsimp only at hSw); go_simp <;> with_reducible rfl)
                          try simp only [Act.put, List.setIfInBounds_toArray, List.set_cons_zero, List.set_cons_succ, List.getElem_toArray, List.getElem_cons_zero, List.getElem_cons_succ]
                          refine wpAnyH_take (i := 82) (v := ?_) rfl (by kernel_rfl) (by kernel_rfl) (by kernel_rfl) (fun _ _ _ h => h) (Or.inl ⟨by rfl, ?_⟩) (by assumption) ?_
                          rotate_left
                          · (intro wx hSw; (try dsimp only at hSw); go_simp <;> with_reducible rfl)
                          try simp only [Act.put, List.setIfInBounds_toArray, List.set_cons_zero, List.set_cons_succ, List.getElem_toArray, List.getElem_cons_zero, List.getElem_cons_succ]
                          refine wpAnyH_take (i := 83) (v := ?_) rfl (by kernel_rfl) (by kernel_rfl) (by kernel_rfl) (fun _ _ _ h => h) (Or.inl ⟨by rfl, ?_⟩) (by assumption) ?_
                          rotate_left
                          · (intro wx hSw; (try dsimp only at hSw); go_simp <;> with_reducible rfl)
                          try simp only [Act.put, List.setIfInBounds_toArray, List.set_cons_zero, List.set_cons_succ, List.getElem_toArray, List.getElem_cons_zero, List.getElem_cons_succ]
                          as_aux_lemma =>
                            refine wpAnyH_ready (rs := [84]) (by kernel_rfl) (by simp) ?_
                            refine AllReadyH.cons rfl (fun K hK => ?_) AllReadyH.nil
                            go_simp
                            go_at_call 26
                            with_reducible refine (components_nil zd18).mono ?_
                            rintro r zd19 ⟨rfl, hb⟩
                            have HBd19 : Hid (Below wd.heap.size wd zd19) := (HBd18.out).trans (hb.mono (HBd18.out).size)
                            go_wp2_with fail
                            refine hK.out _ _ (⟨cellL hHd18.1 hb, cellL hHd18.2 hb⟩) (fun hHd19 => ?_)
                            clear hK K hHd18
                            try simp only [Act.put, List.setIfInBounds_toArray, List.set_cons_zero, List.set_cons_succ, List.getElem_toArray, List.getElem_cons_zero, List.getElem_cons_succ]
                            clear hb
                            refine wpAnyH_take (i := 85) (v := ?_) rfl (by kernel_rfl) (by kernel_rfl) (by kernel_rfl) (fun _ _ _ h => h) (Or.inl ⟨by rfl, ?_⟩) (by assumption) ?_
                            rotate_left
                            · (intro wx hSw; (try dsimp only at hSw); go_simp <;> with_reducible rfl)
                            try simp only [Act.put, List.setIfInBounds_toArray, List.set_cons_zero, List.set_cons_succ, List.getElem_toArray, List.getElem_cons_zero, List.getElem_cons_succ]
                            refine wpAnyH_take (i := 86) (v := ?_) rfl (by kernel_rfl) (by kernel_rfl) (by kernel_rfl) (fun _ _ _ h => h) (Or.inl ⟨by rfl, ?_⟩) (by assumption) ?_
                            rotate_left
                            · (intro wx hSw; (try dsimp only at hSw); go_simp <;> with_reducible rfl)
                            try simp only [Act.put, List.setIfInBounds_toArray, List.set_cons_zero, List.set_cons_succ, List.getElem_toArray, List.getElem_cons_zero, List.getElem_cons_succ]
                            refine wpAnyH_take (i := 87) (v := ?_) rfl (by kernel_rfl) (by kernel_rfl) (by kernel_rfl) (fun _ _ _ h => h) (Or.inl ⟨by rfl, ?_⟩) (by assumption) ?_
                            rotate_left
                            · (intro wx hSw; (try dsimp only at hSw); go_simp <;> with_reducible rfl)
                            try simp only [Act.put, List.setIfInBounds_toArray, List.set_cons_zero, List.set_cons_succ, List.getElem_toArray, List.getElem_cons_zero, List.getElem_cons_succ]
                            refine wpAnyH_take (i := 88) (v := ?_) rfl (by kernel_rfl) (by kernel_rfl) (by kernel_rfl) (fun _ _ _ h => h) (Or.inl ⟨by rfl, ?_⟩) (by assumption) ?_
                            rotate_left
                            · (intro wx hSw; (try dsimp only at hSw); go_simp <;> with_reducible rfl)
                            try simp only [Act.put, List.setIfInBounds_toArray, List.set_cons_zero, List.set_cons_succ, List.getElem_toArray, List.getElem_cons_zero, List.getElem_cons_succ]
                            refine wpAnyH_take (i := 89) (v := ?_) rfl (by kernel_rfl) (by kernel_rfl) (by kernel_rfl) (fun _ _ _ h => h) (Or.inl ⟨by rfl, ?_⟩) (by assumption) ?_
                            rotate_left
                            · (intro wx hSw; (try dsimp only at hSw); go_simp <;> with_reducible rfl)
                            try simp only [Act.put, List.setIfInBounds_toArray, List.set_cons_zero, List.set_cons_succ, List.getElem_toArray, List.getElem_cons_zero, List.getElem_cons_succ]
                            refine wpAnyH_ready (rs := [90]) (by kernel_rfl) (by simp) ?_
                            refine AllReadyH.cons rfl (fun K hK => ?_) AllReadyH.nil
                            go_simp
                            go_at_call 36
                            with_reducible refine (gEqual_nn zd19).mono ?_
                            rintro r zd20 ⟨rfl, hb⟩
                            have HBd20 : Hid (Below wd.heap.size wd zd20) := (HBd19.out).trans (hb.mono (HBd19.out).size)
                            go_wp2_with fail
                            refine hK.out _ _ (⟨cellL hHd19.1 hb, cellL hHd19.2 hb⟩) (fun hHd20 => ?_)
                            clear hK K hHd19
                            try simp only [Act.put, List.setIfInBounds_toArray, List.set_cons_zero, List.set_cons_succ, List.getElem_toArray, List.getElem_cons_zero, List.getElem_cons_succ]
                            clear hb
                            refine wpAnyH_take (i := 91) (v := ?_) rfl (by kernel_rfl) (by kernel_rfl) (by kernel_rfl) (fun _ _ _ h => h) (Or.inl ⟨by rfl, ?_⟩) (by assumption) ?_
                            rotate_left
                            · (intro wx hSw; (try dsimp only at hSw); go_simp <;> with_reducible rfl)
                            try simp only [Act.put, List.setIfInBounds_toArray, List.set_cons_zero, List.set_cons_succ, List.getElem_toArray, List.getElem_cons_zero, List.getElem_cons_succ]
                            refine wpAnyH_take (i := 92) (v := ?_) rfl (by kernel_rfl) (by kernel_rfl) (by kernel_rfl) (fun _ _ _ h => h) (Or.inl ⟨by rfl, ?_⟩) (by assumption) ?_
                            rotate_left
                            · (intro wx hSw; (try dsimp only at hSw); go_simp <;> with_reducible rfl)
                            try simp only [Act.put, List.setIfInBounds_toArray, List.set_cons_zero, List.set_cons_succ, List.getElem_toArray, List.getElem_cons_zero, List.getElem_cons_succ]
                            refine wpAnyH_take (i := 93) (v := ?_) rfl (by kernel_rfl) (by kernel_rfl) (by kernel_rfl) (fun _ _ _ h => h) (Or.inl ⟨by rfl, ?_⟩) (by assumption) ?_
                            rotate_left
                            · (intro wx hSw; (try dsimp only at hSw); go_simp <;> with_reducible rfl)
                            try simp only [Act.put, List.setIfInBounds_toArray, List.set_cons_zero, List.set_cons_succ, List.getElem_toArray, List.getElem_cons_zero, List.getElem_cons_succ]
                            refine wpAnyH_ready (rs := [94]) (by kernel_rfl) (by simp) ?_
                            refine AllReadyH.cons rfl (fun K hK => ?_) AllReadyH.nil
                            go_simp
                            go_at_call 36
                            with_reducible refine (gEqual_gn zd20 p).mono ?_
                            rintro r zd21 ⟨rfl, hb⟩
                            have HBd21 : Hid (Below wd.heap.size wd zd21) := (HBd20.out).trans (hb.mono (HBd20.out).size)
                            go_wp2_with fail
                            refine hK.out _ _ (⟨cellL hHd20.1 hb, cellL hHd20.2 hb⟩) (fun hHd21 => ?_)
                            clear hK K hHd20
                            try simp only [Act.put, List.setIfInBounds_toArray, List.set_cons_zero, List.set_cons_succ, List.getElem_toArray, List.getElem_cons_zero, List.getElem_cons_succ]
                            clear hb
                            refine wpAnyH_take (i := 95) (v := ?_) rfl (by kernel_rfl) (by kernel_rfl) (by kernel_rfl) (fun _ _ _ h => h) (Or.inl ⟨by rfl, ?_⟩) (by assumption) ?_
                            rotate_left
                            · (intro wx hSw; (try dsimp only at hSw); go_simp <;> with_reducible rfl)
                            try simp only [Act.put, List.setIfInBounds_toArray, List.set_cons_zero, List.set_cons_succ, List.getElem_toArray, List.getElem_cons_zero, List.getElem_cons_succ]
                            refine wpAnyH_take (i := 96) (v := ?_) rfl (by kernel_rfl) (by kernel_rfl) (by kernel_rfl) (fun _ _ _ h => h) (Or.inl ⟨by rfl, ?_⟩) (by assumption) ?_
                            rotate_left
                            · (intro wx hSw; (try dsimp only at hSw); go_simp <;> with_reducible rfl)
                            try simp only [Act.put, List.setIfInBounds_toArray, List.set_cons_zero, List.set_cons_succ, List.getElem_toArray, List.getElem_cons_zero, List.getElem_cons_succ]
                            refine wpAnyH_take (i := 97) (v := ?_) rfl (by kernel_rfl) (by kernel_rfl) (by kernel_rfl) (fun _ _ _ h => h) (Or.inl ⟨by rfl, ?_⟩) (by assumption) ?_
                            rotate_left
                            · (intro wx hSw; (try dsimp only at hSw); go_simp <;> with_reducible rfl)
                            try simp only [Act.put, List.setIfInBounds_toArray, List.set_cons_zero, List.set_cons_succ, List.getElem_toArray, List.getElem_cons_zero, List.getElem_cons_succ]
                            refine wpAnyH_take (i := 98) (v := ?_) rfl (by kernel_rfl) (by kernel_rfl) (by kernel_rfl) (fun _ _ _ h => h) (Or.inl ⟨by rfl, ?_⟩) (by assumption) ?_
                            rotate_left
                            · (intro wx hSw; (try dsimp only at hSw); go_simp <;> with_reducible rfl)
                            try simp only [Act.put, List.setIfInBounds_toArray, List.set_cons_zero, List.set_cons_succ, List.getElem_toArray, List.getElem_cons_zero, List.getElem_cons_succ]
                            refine wpAnyH_take (i := 99) (v := ?_) rfl (by kernel_rfl) (by kernel_rfl) (by kernel_rfl) (fun _ _ _ h => h) (Or.inl ⟨by rfl, ?_⟩) (by assumption) ?_
                            rotate_left
                            · (intro wx hSw; (try dsimp only at hSw); go_simp <;> with_reducible rfl)
                            try simp only [Act.put, List.setIfInBounds_toArray, List.set_cons_zero, List.set_cons_succ, List.getElem_toArray, List.getElem_cons_zero, List.getElem_cons_succ]
                            refine wpAnyH_ready (rs := [100]) (by kernel_rfl) (by simp) ?_
                            refine AllReadyH.cons rfl (fun K hK => ?_) AllReadyH.nil
                            go_simp
                            go_at_call 36
                            with_reducible refine (gEqual_ng zd21 p).mono ?_
                            rintro r zd22 ⟨rfl, hb⟩
                            have HBd22 : Hid (Below wd.heap.size wd zd22) := (HBd21.out).trans (hb.mono (HBd21.out).size)
                            go_wp2_with fail
                            refine hK.out _ _ (⟨cellL hHd21.1 hb, cellL hHd21.2 hb⟩) (fun hHd22 => ?_)
                            clear hK K hHd21
                            try simp only [Act.put, List.setIfInBounds_toArray, List.set_cons_zero, List.set_cons_succ, List.getElem_toArray, List.getElem_cons_zero, List.getElem_cons_succ]
                            clear hb
                            refine wpAnyH_take (i := 101) (v := ?_) rfl (by kernel_rfl) (by kernel_rfl) (by kernel_rfl) (fun _ _ _ h => h) (Or.inl ⟨by rfl, ?_⟩) (by assumption) ?_
                            rotate_left
                            · (intro wx hSw; (try dsimp only at hSw); go_simp <;> with_reducible rfl)
                            try simp only [Act.put, List.setIfInBounds_toArray, List.set_cons_zero, List.set_cons_succ, List.getElem_toArray, List.getElem_cons_zero, List.getElem_cons_succ]
                            refine wpAnyH_take (i := 102) (v := ?_) rfl (by kernel_rfl) (by kernel_rfl) (by kernel_rfl) (fun _ _ _ h => h) (Or.inl ⟨by rfl, ?_⟩) (by assumption) ?_
                            rotate_left
                            · (intro wx hSw; (try dsimp only at hSw); go_simp <;> with_reducible rfl)
                            try simp only [Act.put, List.setIfInBounds_toArray, List.set_cons_zero, List.set_cons_succ, List.getElem_toArray, List.getElem_cons_zero, List.getElem_cons_succ]
                            refine wpAnyH_take (i := 103) (v := ?_) rfl (by kernel_rfl) (by kernel_rfl) (by kernel_rfl) (fun _ _ _ h => h) (Or.inl ⟨by rfl, ?_⟩) (by assumption) ?_
                            rotate_left
                            · (intro wx hSw; (try dsimp only at hSw); go_simp <;> with_reducible rfl)
                            try simp only [Act.put, List.setIfInBounds_toArray, List.set_cons_zero, List.set_cons_succ, List.getElem_toArray, List.getElem_cons_zero, List.getElem_cons_succ]
                            refine wpAnyH_done (by kernel_rfl) ?_ _
                            go_wp2
                            go_ret
                            exact ⟨rfl, HBwd.out.trans (HBd22.out.mono HBwd.out.size)⟩
end Go.Proofs.Yteiddebjbiadbaa
