/- law 08: GraphJoined. (printed by wip/gen_gmlj.py) -/
import Derived.Test.YteiddebjbiadbaaGmLp
import Derived.Test.YteiddebjbiadbaaGmLw
import Derived.Test.YteiddebjbiadbaaGmMap
namespace Go.Proofs.Yteiddebjbiadbaa
open Go.RowKit Gr
attribute [local go_sem ↓] Go.wp_at_zero Go.wp_at_succ

def encU (_ : Unit) : Value := .bool true
theorem MapZ.below {w w' : World} {m : Nat} {l : List (Int × Unit)} (h : MapZ encU w m l) (hb : Below w.heap.size w w') : MapZ encU w' m l := by
  obtain ⟨es, c, h1, h2, h3⟩ := h
  exact ⟨es, c, (hb.block m (lt_of_heap h1)).trans h1, h2, h3⟩
theorem hasB_edge_t {n : Nat} {es : List Ed} (hin : Ins n es) {a b : Nat} (h : (a, b) ∈ es) : hasB n es (a : Int) (b : Int) = true := (hasB_edge hin).2 h
theorem iGet_set {l : List (Int × Unit)} {n x : Int} (h : x ≠ n) : iGet (iSet l n ()) x = iGet l x := by
  induction l with
  | nil => simp [iSet, iGet, h]
  | cons p r ih =>
    unfold iSet
    split
    · rename_i q
      simp only [iGet]
      rw [if_neg h, if_neg (by rw [← q]; exact h)]
    · simp only [iGet]
      rw [ih]
/-- What is known of a path. -/
structure JoinP (es : List Ed) (n a b : Nat) (bq : Bool) (l : List Nat) : Prop where
  nod : l.Nodup
  lt : ∀ x ∈ l, x < n
  edge : ∀ (i x y : Nat), l[i]? = some x → l[i + 1]? = some y → (x, y) ∈ es
  reach : bq = true ↔ Gr.Reach es a b
  pos : bq = true ↔ 0 < l.length
  first : bq = true → l[0]? = some a
  last : bq = true → l[l.length - 1]? = some b
theorem joinP {es : List Ed} {n a b : Nat} (hin : Ins n es) (ha : a < n) (hb : b < n) : JoinP es n a b (pathR n es (a : Int) (b : Int)).1 (pathR n es (a : Int) (b : Int)).2 := by
  have hD := far_ok hin hb
  unfold pathR
  rw [if_pos (by rw [Bool.and_eq_true]; exact ⟨nodeB_iff.2 (by omega), nodeB_iff.2 (by omega)⟩), Int.toNat_natCast, Int.toNat_natCast]
  by_cases hq : at_ (farF es n b) a < 0
  · rw [if_pos hq]
    exact ⟨List.nodup_nil, fun x hx => (by cases hx), fun i x y hx => by simp at hx, ⟨fun h => (by cases h), fun h => absurd ((hD.reach a).2 h) (by omega)⟩, ⟨fun h => (by cases h), fun h => absurd h (by simp)⟩, fun h => (by cases h), fun h => (by cases h)⟩
  · rw [if_neg hq]
    obtain ⟨k, hk⟩ := Int.eq_ofNat_of_zero_le (by omega : 0 ≤ at_ (farF es n b) a)
    rw [hk, Int.toNat_natCast]
    have hp := path_ok hD k a hk
    refine ⟨hp.nodup, hp.lt hD.len, hp.edge, ⟨fun _ => (hD.reach a).1 (by omega), fun _ => rfl⟩, ⟨fun _ => by show 0 < (pathF (aft es) (farF es n b) b k a).length; rw [hp.len]; omega, fun _ => rfl⟩, fun _ => hp.first, fun _ => ?_⟩
    show (pathF (aft es) (farF es n b) b k a)[(pathF (aft es) (farF es n b) b k a).length - 1]? = some b
    rw [hp.len]
    exact hp.last
set_option linter.unusedSimpArgs false in
set_option maxRecDepth 100000 in
set_option maxHeartbeats 3200000 in
theorem lawJoined_any {w : World} {m xa xb : Nat} {v : Value} {l : List (Int × Int)} (h : RowK kE w v l) (hl : l.length ≤ 9223372036854775807) (hm : m ≤ 255) (hxa : xa ≤ 255) (hxb : xb ≤ 255) :
    Calls Try.prog 8 #[.int .u8 (m : Int), v, .agg #[.int .u8 (xa : Int), .int .u8 (xb : Int)]] w (TruePost w) := by
  obtain ⟨av, cv, rfl, -⟩ := h.form
  obtain ⟨x1, hx1⟩ : ∃ x1, w.alloc (.cells #[.int .u8 (xa : Int), .int .u8 (xb : Int)] 62) = x1 := ⟨_, rfl⟩
  have HBx : Hid (Below w.heap.size w x1) := by rw [← hx1]; exact (Below.refl _ _).alloc (Nat.le_refl _) _
  have HRx : Hid (RowIs x1 w.heap.size 62 [.int .u8 (xa : Int), .int .u8 (xb : Int)]) := by rw [← hx1]; exact new_row _ _ _
  have Hm := Lib.hid hm
  have Hl := Lib.hid hl
  have H := Lib.hid h
  clear h
  go_enter Try.func8, Try.ntmps8
  go_upto_region 1 with fail
  clear hx1
  obtain ⟨s, hs⟩ : ∃ s, w.heap.size = s := ⟨_, rfl⟩
  rw [hs] at HRx ⊢
  clear hs
  go_wp2_with fail
  refine (known_any _).mono ?_
  rintro r x2 ⟨rfl, hb2⟩
  have HB2 : Hid (Below w.heap.size w x2) := HBx.out.trans (hb2.mono HBx.out.size)
  have HR2 := Lib.hid (HRx.out.later hb2)
  clear hb2
  have HK := Lib.hid (make_any (H.out.later HB2.out) Hl.out Hm.out)
  go_wp2_with fail
  refine HK.out.mono ?_
  rintro r x3 ⟨hb3, n, p, vg, es, rfl, hn1, hn30, hes, hnm, hin, hG, hO, hp⟩
  have HB3 : Hid (Below w.heap.size w x3) := HB2.out.trans (hb3.mono HB2.out.size)
  have HR3 := Lib.hid (HR2.out.later hb3)
  have Hn : Hid (1 ≤ n ∧ n ≤ 30 ∧ es.length ≤ 120) := ⟨hn1, hn30, hes⟩
  have Hin := Lib.hid hin
  have Hnm := Lib.hid hnm
  have HG := Lib.hid hG
  obtain ⟨ga, gc, egv, -⟩ := hO.row.form
  obtain ⟨gm, hgm⟩ : ∃ m, (es.map ofEd).length = m := ⟨_, rfl⟩
  rw [hgm] at egv
  subst egv
  have HO := Lib.hid hO
  clear hgm hb3 hn1 hn30 hes hnm hin hG hO hp HK
  go_upto_region 4 with fail
  obtain ⟨y0, hy0⟩ : ∃ y, x3.alloc (.cells #[.int .i64 (n : Int), .slice ga gm gc] 27) = y := ⟨_, rfl⟩
  have hb4 : Below x3.heap.size x3 y0 := by rw [← hy0]; exact (Below.refl _ _).alloc (Nat.le_refl _) _
  have HT : Hid (RowIs y0 x3.heap.size 27 [.int .i64 (n : Int), .slice ga gm gc]) := by rw [← hy0]; exact new_row _ _ _
  rw [hy0]
  have HBy : Hid (Below w.heap.size w y0) := HB3.out.trans (hb4.mono HB3.out.size)
  have HRy := Lib.hid (HR3.out.later hb4)
  have HGy := Lib.hid (HG.out.later hb4)
  have HOy := Lib.hid (HO.out.later hb4)
  clear hy0 hb4 HG HO HB3 HB2 HBx HR3 HR2 HRx
  obtain ⟨t, ht⟩ : ∃ t, x3.heap.size = t := ⟨_, rfl⟩
  rw [ht] at HT ⊢
  clear ht
  have e0 := HRy.out.cell (i := 0) rfl
  have e1 := HRy.out.cell (i := 1) rfl
  have e2 := HT.out.cell (i := 0) rfl
  obtain ⟨a, ha⟩ : ∃ a, xa % n = a := ⟨_, rfl⟩
  obtain ⟨b, hb⟩ : ∃ b, xb % n = b := ⟨_, rfl⟩
  have hn1 := Hn.out.1
  have Hab : Hid (a < n ∧ b < n) := ⟨by rw [← ha]; exact Nat.mod_lt _ (by omega), by rw [← hb]; exact Nat.mod_lt _ (by omega)⟩
  have ht0 : ((xa : Int)).tmod (n : Int) = (a : Int) := by rw [Int.tmod_eq_emod_of_nonneg (by omega), ← ha]; exact (Int.natCast_emod xa n).symm
  have ht1 : ((xb : Int)).tmod (n : Int) = (b : Int) := by rw [Int.tmod_eq_emod_of_nonneg (by omega), ← hb]; exact (Int.natCast_emod xb n).symm
  have hn0 : ¬ (n : Int) = 0 := by omega
  have hn0' : ¬ n = 0 := by omega
  have HJ := Lib.hid (joinP (n := n) Hin.out Hab.out.1 Hab.out.2)
  have Hpl : Hid ((pathR n es (a : Int) (b : Int)).2.length ≤ 30) := by have := pathR_len Hin.out (a : Int) (b : Int); have := Hn.out; show _ ≤ _; omega
  clear ha hb hn1
  go_upto_region 6 with fail
  go_quiet (fail)
  clear ht0 ht1 hn0 hn0' e0 e1 e2
  go_wp2_with fail
  refine (path_r (HGy.out.later (Below.dn (Below.refl _ _) _)) Hin.out (a : Int) (b : Int)).mono ?_
  rintro r z1 ⟨hz1, u1, rfl, hr1⟩
  have HZ1 : Hid (Below y0.heap.size y0 z1) := (Below.dn (Below.refl _ _) _).trans hz1
  obtain ⟨bq, hbq⟩ : ∃ z, (pathR n es (a : Int) (b : Int)).1 = z := ⟨_, rfl⟩
  obtain ⟨pl, hpl⟩ : ∃ z, (pathR n es (a : Int) (b : Int)).2 = z := ⟨_, rfl⟩
  rw [hpl] at hr1 HJ Hpl
  rw [hbq] at HJ ⊢
  have HR := Lib.hid hr1
  obtain ⟨pa, pc, epl, -⟩ := hr1.form
  subst epl
  have HHs : Hid (∀ (x y : Int) (W : World), Below z1.heap.size z1 W → Calls Try.prog 28 #[.pointer (some ⟨p, 0, none⟩), .int .i64 x, .int .i64 y] W (IsB (hasB n es x y) W)) := fun x y W hW => has_r ((HGy.out.later HZ1.out).later hW) Hnm.out x y
  clear hbq hpl hz1 hr1
  have hmm := @run_makeMap Try.prog
  go_upto_region 9 with fail
  obtain ⟨z2, hz2⟩ : ∃ y, z1.alloc (.map #[] 0) = y := ⟨_, rfl⟩
  have HB0 : Hid (Below z1.heap.size z1 z2) := by rw [← hz2]; exact (Below.refl _ _).alloc (Nat.le_refl _) _
  have HM0 : Hid (MapZ encU z2 z1.heap.size []) := by rw [← hz2]; exact ⟨#[], 0, World.alloc_heap_new z1 _, rfl, ⟨by simp, by simp⟩⟩
  rw [hz2]
  obtain ⟨mb, hmb⟩ : ∃ b, z1.heap.size = b := ⟨_, rfl⟩
  have Hmb : Hid (z1.heap.size ≤ mb) := Nat.le_of_eq hmb
  rw [hmb] at HM0 ⊢
  clear hz2 hmm hmb
  go_wp2
  go_loopg [14] pl.length (fun gk iv wr => ∃ (i : Nat) (M : List (Int × Unit)), Hid (i + gk = pl.length) ∧ iv = .int .i64 i ∧ Hid (Below z1.heap.size z1 wr) ∧ Hid (MapZ encU wr mb M) ∧ Hid (∀ x : Nat, x ∉ pl.take i → iGet M (x : Int) = none))
  case atStart => exact ⟨0, [], Nat.zero_add _, rfl, HB0, HM0, fun x _ => rfl⟩
  case round =>
    clear HB0 HM0
    obtain ⟨i, M, Hi, rfl, HB, HMp, HNo⟩ := hrel
    by_cases hlt : i < pl.length
    · obtain ⟨x, hx⟩ : ∃ x, pl[i]? = some x := ⟨_, List.getElem?_eq_getElem hlt⟩
      obtain ⟨g, off, rfl, hca⟩ := (HR.out.later HB.out).at_ hx
      have d1 := hca 0 _ rfl
      simp only [kNat, Nat.mul_one] at d1
      have hnx : x ∉ pl.take i := fun hm => by
        obtain ⟨j, hj⟩ := List.mem_iff_getElem?.1 hm
        have hjl := (List.getElem?_eq_some_iff.1 hj).1
        rw [List.length_take] at hjl
        rw [List.getElem?_take, if_pos (by omega)] at hj
        have := (List.getElem?_inj (by omega) HJ.out.nod).1 (hj.trans hx.symm)
        omega
      have HLk : Hid (∀ W, MapZ encU W mb M → (Instr.lookup 63 (.map (some mb)) (.int .i64 (x : Int)) false).run Try.prog W = .ok (.bool false) W) := fun W hW => by
        have h := run_lookup1_int encU W 63 4 Try.underlying63 (.bool false) (by kernel_rfl) mb M hW (x : Int)
        rw [HNo.out x hnx] at h
        exact h
      have HNo2 : Hid (∀ y : Nat, y ∉ pl.take (i + 1) → iGet (iSet M (x : Int) ()) (y : Int) = none) := fun y hy => by
        rw [List.take_add_one, hx] at hy
        have h1 : y ∉ pl.take i := fun q => hy (List.mem_append_left _ q)
        have h2 : y ≠ x := fun q => hy (List.mem_append_right _ (by rw [q]; simp))
        rw [iGet_set (by omega)]
        exact HNo.out y h1
      have hii : (i : Int) < (pl.length : Int) := by omega
      have his : i ≤ 30 := by have := Hpl.out; omega
      have Hlt := Lib.hid hlt
      have Hx := Lib.hid hx
      clear hca hnx hlt hx HNo
      have HUp : Hid (∀ W, Below z1.heap.size z1 W → MapZ encU W mb M → ∃ w9, (Instr.mapUpdate 63 (.map (some mb)) (.int .i64 (x : Int)) (.bool true)).run Try.prog W = .ok () w9 ∧ MapZ encU w9 mb (iSet M (x : Int) ()) ∧ Below z1.heap.size z1 w9) := fun W hW hMW => by
        obtain ⟨w9, h1, h2, h3⟩ := run_mapUpdate_int encU W 63 4 Try.underlying63 mb M hMW (x : Int) ()
        exact ⟨w9, h1, h2, below_grow hW h3 (Nat.le_refl _) (fun k hk => by have := Hmb.out; cases hk; exact this)⟩
      rcases i with _ | k
      · simp only [Nat.add_zero, Nat.zero_add] at d1
        go_upto_region 12 with fail
        refine wp_region_held_drew (S := (fun W => MapZ encU W mb M ∧ W.cell? ⟨g, off, none⟩ = some (.int .i64 (x : Int)))) (by kernel_rfl) (⟨HMp.out, d1⟩) (fun hHa0 => ?_)
        refine wpAnyH_take (i := 0) (v := ?_) rfl (by kernel_rfl) (by kernel_rfl) (by kernel_rfl) (fun _ _ _ h => h) (Or.inl ⟨by rfl, ?_⟩) (by assumption) ?_
        rotate_left
        · (intro wx hSw; (try dsimp only at hSw); go_simp <;> with_reducible rfl)
        try simp only [Act.put, List.setIfInBounds_toArray, List.set_cons_zero, List.set_cons_succ, List.getElem_toArray, List.getElem_cons_zero, List.getElem_cons_succ]
        refine wpAnyH_take (i := 1) (v := ?_) rfl (by kernel_rfl) (by kernel_rfl) (by kernel_rfl) (fun _ _ _ h => h) (Or.inl ⟨by rfl, ?_⟩) (by assumption) ?_
        rotate_left
        · (intro wx hSw; (try dsimp only at hSw); go_simp <;> with_reducible rfl)
        try simp only [Act.put, List.setIfInBounds_toArray, List.set_cons_zero, List.set_cons_succ, List.getElem_toArray, List.getElem_cons_zero, List.getElem_cons_succ]
        refine wpAnyH_take (i := 2) (v := ?_) rfl (by kernel_rfl) (by kernel_rfl) (by kernel_rfl) (fun _ _ _ h => h) (Or.inl ⟨by rfl, ?_⟩) (by assumption) ?_
        rotate_left
        · (intro wx hSw; (try dsimp only at hSw); go_simp <;> with_reducible rfl)
        try simp only [Act.put, List.setIfInBounds_toArray, List.set_cons_zero, List.set_cons_succ, List.getElem_toArray, List.getElem_cons_zero, List.getElem_cons_succ]
        refine wpAnyH_take (i := 3) (v := ?_) rfl (by kernel_rfl) (by kernel_rfl) (by kernel_rfl) (fun _ _ _ h => h) (Or.inl ⟨by rfl, ?_⟩) (by assumption) ?_
        rotate_left
        · (intro wx hSw; (try dsimp only at hSw); go_simp <;> with_reducible rfl)
        try simp only [Act.put, List.setIfInBounds_toArray, List.set_cons_zero, List.set_cons_succ, List.getElem_toArray, List.getElem_cons_zero, List.getElem_cons_succ]
        refine wpAnyH_take (i := 4) (v := ?_) rfl (by kernel_rfl) (by kernel_rfl) (by kernel_rfl) (fun _ _ _ h => h) (Or.inl ⟨by rfl, ?_⟩) (by assumption) ?_
        rotate_left
        · (intro wx hSw; (try dsimp only at hSw); go_simp <;> with_reducible rfl)
        try simp only [Act.put, List.setIfInBounds_toArray, List.set_cons_zero, List.set_cons_succ, List.getElem_toArray, List.getElem_cons_zero, List.getElem_cons_succ]
        refine wpAnyH_take (i := 5) (v := .bool false) rfl (by kernel_rfl) (by kernel_rfl) (by kernel_rfl) (fun _ _ _ h => h) (Or.inl ⟨by rfl, ?_⟩) (by assumption) ?_
        · (intro wx hSw; have q5 := HLk.out wx hSw.1; go_simp <;> with_reducible rfl)
        try simp only [Act.put, List.setIfInBounds_toArray, List.set_cons_zero, List.set_cons_succ, List.getElem_toArray, List.getElem_cons_zero, List.getElem_cons_succ]
        refine wpAnyH_take (i := 6) (v := ?_) rfl (by kernel_rfl) (by kernel_rfl) (by kernel_rfl) (fun _ _ _ h => h) (Or.inl ⟨by rfl, ?_⟩) (by assumption) ?_
        rotate_left
        · (intro wx hSw; (try dsimp only at hSw); go_simp <;> with_reducible rfl)
        try simp only [Act.put, List.setIfInBounds_toArray, List.set_cons_zero, List.set_cons_succ, List.getElem_toArray, List.getElem_cons_zero, List.getElem_cons_succ]
        refine wpAnyH_take (i := 7) (v := ?_) rfl (by kernel_rfl) (by kernel_rfl) (by kernel_rfl) (fun _ _ _ h => h) (Or.inl ⟨by rfl, ?_⟩) (by assumption) ?_
        rotate_left
        · (intro wx hSw; (try dsimp only at hSw); go_simp <;> with_reducible rfl)
        try simp only [Act.put, List.setIfInBounds_toArray, List.set_cons_zero, List.set_cons_succ, List.getElem_toArray, List.getElem_cons_zero, List.getElem_cons_succ]
        refine wpAnyH_take (i := 8) (v := ?_) rfl (by kernel_rfl) (by kernel_rfl) (by kernel_rfl) (fun _ _ _ h => h) (Or.inl ⟨by rfl, ?_⟩) (by assumption) ?_
        rotate_left
        · (intro wx hSw; (try dsimp only at hSw); go_simp <;> with_reducible rfl)
        try simp only [Act.put, List.setIfInBounds_toArray, List.set_cons_zero, List.set_cons_succ, List.getElem_toArray, List.getElem_cons_zero, List.getElem_cons_succ]
        refine wpAnyH_take (i := 9) (v := ?_) rfl (by kernel_rfl) (by kernel_rfl) (by kernel_rfl) (fun _ _ _ h => h) (Or.inl ⟨by rfl, ?_⟩) (by assumption) ?_
        rotate_left
        · (intro wx hSw; (try dsimp only at hSw); go_simp <;> with_reducible rfl)
        try simp only [Act.put, List.setIfInBounds_toArray, List.set_cons_zero, List.set_cons_succ, List.getElem_toArray, List.getElem_cons_zero, List.getElem_cons_succ]
        refine wpAnyH_take (i := 10) (v := undef) rfl (by kernel_rfl) (by kernel_rfl) (by kernel_rfl) (fun _ _ _ h => h) (Or.inr ⟨by simp [Region.wanted, yielded, undef], rfl⟩) (by assumption) ?_
        try simp only [Act.put, List.setIfInBounds_toArray, List.set_cons_zero, List.set_cons_succ, List.getElem_toArray, List.getElem_cons_zero, List.getElem_cons_succ]
        refine wpAnyH_take (i := 11) (v := undef) rfl (by kernel_rfl) (by kernel_rfl) (by kernel_rfl) (fun _ _ _ h => h) (Or.inr ⟨by simp [Region.wanted, yielded, undef], rfl⟩) (by assumption) ?_
        try simp only [Act.put, List.setIfInBounds_toArray, List.set_cons_zero, List.set_cons_succ, List.getElem_toArray, List.getElem_cons_zero, List.getElem_cons_succ]
        refine wpAnyH_take (i := 12) (v := undef) rfl (by kernel_rfl) (by kernel_rfl) (by kernel_rfl) (fun _ _ _ h => h) (Or.inr ⟨by simp [Region.wanted, yielded, undef], rfl⟩) (by assumption) ?_
        try simp only [Act.put, List.setIfInBounds_toArray, List.set_cons_zero, List.set_cons_succ, List.getElem_toArray, List.getElem_cons_zero, List.getElem_cons_succ]
        refine wpAnyH_take (i := 13) (v := undef) rfl (by kernel_rfl) (by kernel_rfl) (by kernel_rfl) (fun _ _ _ h => h) (Or.inr ⟨by simp [Region.wanted, yielded, undef], rfl⟩) (by assumption) ?_
        try simp only [Act.put, List.setIfInBounds_toArray, List.set_cons_zero, List.set_cons_succ, List.getElem_toArray, List.getElem_cons_zero, List.getElem_cons_succ]
        refine wpAnyH_take (i := 14) (v := undef) rfl (by kernel_rfl) (by kernel_rfl) (by kernel_rfl) (fun _ _ _ h => h) (Or.inr ⟨by simp [Region.wanted, yielded, undef], rfl⟩) (by assumption) ?_
        try simp only [Act.put, List.setIfInBounds_toArray, List.set_cons_zero, List.set_cons_succ, List.getElem_toArray, List.getElem_cons_zero, List.getElem_cons_succ]
        refine wpAnyH_take (i := 15) (v := undef) rfl (by kernel_rfl) (by kernel_rfl) (by kernel_rfl) (fun _ _ _ h => h) (Or.inr ⟨by simp [Region.wanted, yielded, undef], rfl⟩) (by assumption) ?_
        try simp only [Act.put, List.setIfInBounds_toArray, List.set_cons_zero, List.set_cons_succ, List.getElem_toArray, List.getElem_cons_zero, List.getElem_cons_succ]
        refine wpAnyH_take (i := 16) (v := undef) rfl (by kernel_rfl) (by kernel_rfl) (by kernel_rfl) (fun _ _ _ h => h) (Or.inr ⟨by simp [Region.wanted, yielded, undef], rfl⟩) (by assumption) ?_
        try simp only [Act.put, List.setIfInBounds_toArray, List.set_cons_zero, List.set_cons_succ, List.getElem_toArray, List.getElem_cons_zero, List.getElem_cons_succ]
        refine wpAnyH_take (i := 17) (v := undef) rfl (by kernel_rfl) (by kernel_rfl) (by kernel_rfl) (fun _ _ _ h => h) (Or.inr ⟨by simp [Region.wanted, yielded, undef], rfl⟩) (by assumption) ?_
        try simp only [Act.put, List.setIfInBounds_toArray, List.set_cons_zero, List.set_cons_succ, List.getElem_toArray, List.getElem_cons_zero, List.getElem_cons_succ]
        refine wpAnyH_take (i := 18) (v := undef) rfl (by kernel_rfl) (by kernel_rfl) (by kernel_rfl) (fun _ _ _ h => h) (Or.inr ⟨by simp [Region.wanted, yielded, undef], rfl⟩) (by assumption) ?_
        try simp only [Act.put, List.setIfInBounds_toArray, List.set_cons_zero, List.set_cons_succ, List.getElem_toArray, List.getElem_cons_zero, List.getElem_cons_succ]
        refine wpAnyH_take (i := 19) (v := undef) rfl (by kernel_rfl) (by kernel_rfl) (by kernel_rfl) (fun _ _ _ h => h) (Or.inr ⟨by simp [Region.wanted, yielded, undef], rfl⟩) (by assumption) ?_
        try simp only [Act.put, List.setIfInBounds_toArray, List.set_cons_zero, List.set_cons_succ, List.getElem_toArray, List.getElem_cons_zero, List.getElem_cons_succ]
        refine wpAnyH_take (i := 20) (v := undef) rfl (by kernel_rfl) (by kernel_rfl) (by kernel_rfl) (fun _ _ _ h => h) (Or.inr ⟨by simp [Region.wanted, yielded, undef], rfl⟩) (by assumption) ?_
        try simp only [Act.put, List.setIfInBounds_toArray, List.set_cons_zero, List.set_cons_succ, List.getElem_toArray, List.getElem_cons_zero, List.getElem_cons_succ]
        refine wpAnyH_take (i := 21) (v := undef) rfl (by kernel_rfl) (by kernel_rfl) (by kernel_rfl) (fun _ _ _ h => h) (Or.inr ⟨by simp [Region.wanted, yielded, undef], rfl⟩) (by assumption) ?_
        try simp only [Act.put, List.setIfInBounds_toArray, List.set_cons_zero, List.set_cons_succ, List.getElem_toArray, List.getElem_cons_zero, List.getElem_cons_succ]
        refine wpAnyH_take (i := 22) (v := ?_) rfl (by kernel_rfl) (by kernel_rfl) (by kernel_rfl) (fun _ _ _ h => h) (Or.inl ⟨by rfl, ?_⟩) (by assumption) ?_
        rotate_left
        · (intro wx hSw; (try dsimp only at hSw); go_simp <;> with_reducible rfl)
        try simp only [Act.put, List.setIfInBounds_toArray, List.set_cons_zero, List.set_cons_succ, List.getElem_toArray, List.getElem_cons_zero, List.getElem_cons_succ]
        refine wpAnyH_take (i := 23) (v := ?_) rfl (by kernel_rfl) (by kernel_rfl) (by kernel_rfl) (fun _ _ _ h => h) (Or.inl ⟨by rfl, ?_⟩) (by assumption) ?_
        rotate_left
        · (intro wx hSw; (try dsimp only at hSw); go_simp <;> with_reducible rfl)
        try simp only [Act.put, List.setIfInBounds_toArray, List.set_cons_zero, List.set_cons_succ, List.getElem_toArray, List.getElem_cons_zero, List.getElem_cons_succ]
        refine wpAnyH_done (by kernel_rfl) ?_ _
        obtain ⟨y1, hy1⟩ : ∃ y, wr.drew = y := ⟨_, rfl⟩
        have HB2 : Hid (Below z1.heap.size z1 y1) := by rw [← hy1]; exact HB.out.drew
        rw [hy1] at hHa0 ⊢
        clear hy1
        obtain ⟨w9, hrun, hm9, hb9⟩ := HUp.out y1 HB2.out hHa0.1
        have HM9 := Lib.hid hm9
        have HB9 := Lib.hid hb9
        have d5 := hHa0.2
        clear hm9 hb9 hHa0
        go_wp2
        go_roundg (pl.length - (0 + 1))
        case measure => have := Hi.out; have := Hlt.out; omega
        case rel => exact ⟨0 + 1, _, by have := Hi.out; have := Hlt.out; show _ = _; omega, by go_num, HB9, HM9, HNo2⟩
      · obtain ⟨y, hy⟩ : ∃ y, pl[k]? = some y := ⟨_, List.getElem?_eq_getElem (by have := Hlt.out; omega)⟩
        obtain ⟨g', off', hgg, hca⟩ := (HR.out.later HB.out).at_ hy
        cases hgg
        have d2 := hca 0 _ rfl
        simp only [kNat, Nat.mul_one, Nat.add_zero] at d1 d2
        have Hedge : Hid ((y, x) ∈ es) := HJ.out.edge k y x hy Hx.out
        have hki : (k : Int) < (pl.length : Int) := by have := Hlt.out; omega
        have hks : k ≤ 30 := by omega
        have hk0 : (0 : Int) < (k : Int) + 1 := by omega
        have hwk : IntKind.i64.wrap (k : Int) = k := wrapI_nat (by omega)
        have hk00 : (0 : Int) ≤ (k : Int) + 1 := by omega
        clear hca hy
        go_upto_region 12 with fail
        refine wp_region_held_drew (S := (fun W => MapZ encU W mb M ∧ W.cell? ⟨g, off + (k + 1), none⟩ = some (.int .i64 (x : Int)) ∧ W.cell? ⟨g, off + k, none⟩ = some (.int .i64 (y : Int)))) (by kernel_rfl) (⟨HMp.out, d1, d2⟩) (fun hHb0 => ?_)
        refine wpAnyH_take (i := 0) (v := ?_) rfl (by kernel_rfl) (by kernel_rfl) (by kernel_rfl) (fun _ _ _ h => h) (Or.inl ⟨by rfl, ?_⟩) (by assumption) ?_
        rotate_left
        · (intro wx hSw; (try dsimp only at hSw); go_simp <;> with_reducible rfl)
        try simp only [Act.put, List.setIfInBounds_toArray, List.set_cons_zero, List.set_cons_succ, List.getElem_toArray, List.getElem_cons_zero, List.getElem_cons_succ]
        refine wpAnyH_take (i := 1) (v := ?_) rfl (by kernel_rfl) (by kernel_rfl) (by kernel_rfl) (fun _ _ _ h => h) (Or.inl ⟨by rfl, ?_⟩) (by assumption) ?_
        rotate_left
        · (intro wx hSw; (try dsimp only at hSw); go_simp <;> with_reducible rfl)
        try simp only [Act.put, List.setIfInBounds_toArray, List.set_cons_zero, List.set_cons_succ, List.getElem_toArray, List.getElem_cons_zero, List.getElem_cons_succ]
        refine wpAnyH_take (i := 2) (v := ?_) rfl (by kernel_rfl) (by kernel_rfl) (by kernel_rfl) (fun _ _ _ h => h) (Or.inl ⟨by rfl, ?_⟩) (by assumption) ?_
        rotate_left
        · (intro wx hSw; (try dsimp only at hSw); go_simp <;> with_reducible rfl)
        try simp only [Act.put, List.setIfInBounds_toArray, List.set_cons_zero, List.set_cons_succ, List.getElem_toArray, List.getElem_cons_zero, List.getElem_cons_succ]
        refine wpAnyH_take (i := 3) (v := ?_) rfl (by kernel_rfl) (by kernel_rfl) (by kernel_rfl) (fun _ _ _ h => h) (Or.inl ⟨by rfl, ?_⟩) (by assumption) ?_
        rotate_left
        · (intro wx hSw; (try dsimp only at hSw); go_simp <;> with_reducible rfl)
        try simp only [Act.put, List.setIfInBounds_toArray, List.set_cons_zero, List.set_cons_succ, List.getElem_toArray, List.getElem_cons_zero, List.getElem_cons_succ]
        refine wpAnyH_take (i := 4) (v := ?_) rfl (by kernel_rfl) (by kernel_rfl) (by kernel_rfl) (fun _ _ _ h => h) (Or.inl ⟨by rfl, ?_⟩) (by assumption) ?_
        rotate_left
        · (intro wx hSw; (try dsimp only at hSw); go_simp <;> with_reducible rfl)
        try simp only [Act.put, List.setIfInBounds_toArray, List.set_cons_zero, List.set_cons_succ, List.getElem_toArray, List.getElem_cons_zero, List.getElem_cons_succ]
        refine wpAnyH_take (i := 5) (v := .bool false) rfl (by kernel_rfl) (by kernel_rfl) (by kernel_rfl) (fun _ _ _ h => h) (Or.inl ⟨by rfl, ?_⟩) (by assumption) ?_
        · (intro wx hSw; have q5 := HLk.out wx hSw.1; go_simp <;> with_reducible rfl)
        try simp only [Act.put, List.setIfInBounds_toArray, List.set_cons_zero, List.set_cons_succ, List.getElem_toArray, List.getElem_cons_zero, List.getElem_cons_succ]
        refine wpAnyH_take (i := 6) (v := ?_) rfl (by kernel_rfl) (by kernel_rfl) (by kernel_rfl) (fun _ _ _ h => h) (Or.inl ⟨by rfl, ?_⟩) (by assumption) ?_
        rotate_left
        · (intro wx hSw; (try dsimp only at hSw); go_simp <;> with_reducible rfl)
        try simp only [Act.put, List.setIfInBounds_toArray, List.set_cons_zero, List.set_cons_succ, List.getElem_toArray, List.getElem_cons_zero, List.getElem_cons_succ]
        refine wpAnyH_take (i := 7) (v := ?_) rfl (by kernel_rfl) (by kernel_rfl) (by kernel_rfl) (fun _ _ _ h => h) (Or.inl ⟨by rfl, ?_⟩) (by assumption) ?_
        rotate_left
        · (intro wx hSw; (try dsimp only at hSw); go_simp <;> with_reducible rfl)
        try simp only [Act.put, List.setIfInBounds_toArray, List.set_cons_zero, List.set_cons_succ, List.getElem_toArray, List.getElem_cons_zero, List.getElem_cons_succ]
        refine wpAnyH_take (i := 8) (v := ?_) rfl (by kernel_rfl) (by kernel_rfl) (by kernel_rfl) (fun _ _ _ h => h) (Or.inl ⟨by rfl, ?_⟩) (by assumption) ?_
        rotate_left
        · (intro wx hSw; (try dsimp only at hSw); go_simp <;> with_reducible rfl)
        try simp only [Act.put, List.setIfInBounds_toArray, List.set_cons_zero, List.set_cons_succ, List.getElem_toArray, List.getElem_cons_zero, List.getElem_cons_succ]
        refine wpAnyH_take (i := 9) (v := ?_) rfl (by kernel_rfl) (by kernel_rfl) (by kernel_rfl) (fun _ _ _ h => h) (Or.inl ⟨by rfl, ?_⟩) (by assumption) ?_
        rotate_left
        · (intro wx hSw; (try dsimp only at hSw); go_simp <;> with_reducible rfl)
        try simp only [Act.put, List.setIfInBounds_toArray, List.set_cons_zero, List.set_cons_succ, List.getElem_toArray, List.getElem_cons_zero, List.getElem_cons_succ]
        refine wpAnyH_take (i := 10) (v := ?_) rfl (by kernel_rfl) (by kernel_rfl) (by kernel_rfl) (fun _ _ _ h => h) (Or.inl ⟨by rfl, ?_⟩) (by assumption) ?_
        rotate_left
        · (intro wx hSw; (try dsimp only at hSw); go_simp <;> with_reducible rfl)
        try simp only [Act.put, List.setIfInBounds_toArray, List.set_cons_zero, List.set_cons_succ, List.getElem_toArray, List.getElem_cons_zero, List.getElem_cons_succ]
        refine wpAnyH_take (i := 11) (v := ?_) rfl (by kernel_rfl) (by kernel_rfl) (by kernel_rfl) (fun _ _ _ h => h) (Or.inl ⟨by rfl, ?_⟩) (by assumption) ?_
        rotate_left
        · (intro wx hSw; (try dsimp only at hSw); go_simp <;> with_reducible rfl)
        try simp only [Act.put, List.setIfInBounds_toArray, List.set_cons_zero, List.set_cons_succ, List.getElem_toArray, List.getElem_cons_zero, List.getElem_cons_succ]
        refine wpAnyH_take (i := 12) (v := ?_) rfl (by kernel_rfl) (by kernel_rfl) (by kernel_rfl) (fun _ _ _ h => h) (Or.inl ⟨by rfl, ?_⟩) (by assumption) ?_
        rotate_left
        · (intro wx hSw; (try dsimp only at hSw); go_simp <;> with_reducible rfl)
        try simp only [Act.put, List.setIfInBounds_toArray, List.set_cons_zero, List.set_cons_succ, List.getElem_toArray, List.getElem_cons_zero, List.getElem_cons_succ]
        refine wpAnyH_take (i := 13) (v := ?_) rfl (by kernel_rfl) (by kernel_rfl) (by kernel_rfl) (fun _ _ _ h => h) (Or.inl ⟨by rfl, ?_⟩) (by assumption) ?_
        rotate_left
        · (intro wx hSw; (try dsimp only at hSw); go_simp <;> with_reducible rfl)
        try simp only [Act.put, List.setIfInBounds_toArray, List.set_cons_zero, List.set_cons_succ, List.getElem_toArray, List.getElem_cons_zero, List.getElem_cons_succ]
        refine wpAnyH_take (i := 14) (v := ?_) rfl (by kernel_rfl) (by kernel_rfl) (by kernel_rfl) (fun _ _ _ h => h) (Or.inl ⟨by rfl, ?_⟩) (by assumption) ?_
        rotate_left
        · (intro wx hSw; (try dsimp only at hSw); go_simp <;> with_reducible rfl)
        try simp only [Act.put, List.setIfInBounds_toArray, List.set_cons_zero, List.set_cons_succ, List.getElem_toArray, List.getElem_cons_zero, List.getElem_cons_succ]
        refine wpAnyH_take (i := 15) (v := ?_) rfl (by kernel_rfl) (by kernel_rfl) (by kernel_rfl) (fun _ _ _ h => h) (Or.inl ⟨by rfl, ?_⟩) (by assumption) ?_
        rotate_left
        · (intro wx hSw; (try dsimp only at hSw); go_simp <;> with_reducible rfl)
        try simp only [Act.put, List.setIfInBounds_toArray, List.set_cons_zero, List.set_cons_succ, List.getElem_toArray, List.getElem_cons_zero, List.getElem_cons_succ]
        refine wpAnyH_take (i := 16) (v := ?_) rfl (by kernel_rfl) (by kernel_rfl) (by kernel_rfl) (fun _ _ _ h => h) (Or.inl ⟨by rfl, ?_⟩) (by assumption) ?_
        rotate_left
        · (intro wx hSw; (try dsimp only at hSw); go_simp <;> with_reducible rfl)
        try simp only [Act.put, List.setIfInBounds_toArray, List.set_cons_zero, List.set_cons_succ, List.getElem_toArray, List.getElem_cons_zero, List.getElem_cons_succ]
        refine wpAnyH_take (i := 17) (v := ?_) rfl (by kernel_rfl) (by kernel_rfl) (by kernel_rfl) (fun _ _ _ h => h) (Or.inl ⟨by rfl, ?_⟩) (by assumption) ?_
        rotate_left
        · (intro wx hSw; (try dsimp only at hSw); go_simp <;> with_reducible rfl)
        try simp only [Act.put, List.setIfInBounds_toArray, List.set_cons_zero, List.set_cons_succ, List.getElem_toArray, List.getElem_cons_zero, List.getElem_cons_succ]
        refine wpAnyH_take (i := 18) (v := ?_) rfl (by kernel_rfl) (by kernel_rfl) (by kernel_rfl) (fun _ _ _ h => h) (Or.inl ⟨by rfl, ?_⟩) (by assumption) ?_
        rotate_left
        · (intro wx hSw; (try dsimp only at hSw); go_simp <;> with_reducible rfl)
        try simp only [Act.put, List.setIfInBounds_toArray, List.set_cons_zero, List.set_cons_succ, List.getElem_toArray, List.getElem_cons_zero, List.getElem_cons_succ]
        refine wpAnyH_take (i := 19) (v := ?_) rfl (by kernel_rfl) (by kernel_rfl) (by kernel_rfl) (fun _ _ _ h => h) (Or.inl ⟨by rfl, ?_⟩) (by assumption) ?_
        rotate_left
        · (intro wx hSw; (try dsimp only at hSw); go_simp <;> with_reducible rfl)
        try simp only [Act.put, List.setIfInBounds_toArray, List.set_cons_zero, List.set_cons_succ, List.getElem_toArray, List.getElem_cons_zero, List.getElem_cons_succ]
        refine wpAnyH_ready (rs := [20]) (by kernel_rfl) (by simp) ?_
        refine AllReadyH.cons rfl (fun K hK => ?_) AllReadyH.nil
        go_simp
        go_at_call 28
        with_reducible refine (HHs.out (y : Int) (x : Int) _ (HB.out.drew)).mono ?_
        rintro r y1 ⟨rfl, hb⟩
        rw [hasB_edge_t Hin.out Hedge.out]
        have HB2 : Hid (Below z1.heap.size z1 y1) := HB.out.drew.trans (hb.mono HB.out.drew.size)
        go_wp2_with fail
        refine hK.out _ _ (⟨hHb0.1.below hb, cellL hHb0.2.1 hb, cellL hHb0.2.2 hb⟩) (fun hHb1 => ?_)
        clear hK K hHb0
        try simp only [Act.put, List.setIfInBounds_toArray, List.set_cons_zero, List.set_cons_succ, List.getElem_toArray, List.getElem_cons_zero, List.getElem_cons_succ]
        clear hb
        refine wpAnyH_take (i := 21) (v := ?_) rfl (by kernel_rfl) (by kernel_rfl) (by kernel_rfl) (fun _ _ _ h => h) (Or.inl ⟨by rfl, ?_⟩) (by assumption) ?_
        rotate_left
        · (intro wx hSw; (try dsimp only at hSw); go_simp <;> with_reducible rfl)
        try simp only [Act.put, List.setIfInBounds_toArray, List.set_cons_zero, List.set_cons_succ, List.getElem_toArray, List.getElem_cons_zero, List.getElem_cons_succ]
        refine wpAnyH_take (i := 22) (v := ?_) rfl (by kernel_rfl) (by kernel_rfl) (by kernel_rfl) (fun _ _ _ h => h) (Or.inl ⟨by rfl, ?_⟩) (by assumption) ?_
        rotate_left
        · (intro wx hSw; (try dsimp only at hSw); go_simp <;> with_reducible rfl)
        try simp only [Act.put, List.setIfInBounds_toArray, List.set_cons_zero, List.set_cons_succ, List.getElem_toArray, List.getElem_cons_zero, List.getElem_cons_succ]
        refine wpAnyH_take (i := 23) (v := ?_) rfl (by kernel_rfl) (by kernel_rfl) (by kernel_rfl) (fun _ _ _ h => h) (Or.inl ⟨by rfl, ?_⟩) (by assumption) ?_
        rotate_left
        · (intro wx hSw; (try dsimp only at hSw); go_simp <;> with_reducible rfl)
        try simp only [Act.put, List.setIfInBounds_toArray, List.set_cons_zero, List.set_cons_succ, List.getElem_toArray, List.getElem_cons_zero, List.getElem_cons_succ]
        refine wpAnyH_done (by kernel_rfl) ?_ _
        obtain ⟨w9, hrun, hm9, hb9⟩ := HUp.out y1 HB2.out hHb1.1
        have HM9 := Lib.hid hm9
        have HB9 := Lib.hid hb9
        have d5 := hHb1.2.1
        clear hm9 hb9 hHb1
        go_wp2
        go_roundg (pl.length - (k + 1 + 1))
        case measure => have := Hi.out; have := Hlt.out; omega
        case rel => exact ⟨k + 1 + 1, _, by have := Hi.out; have := Hlt.out; show _ = _; omega, by go_num, HB9, HM9, HNo2⟩
    · have hii : ¬ (i : Int) < (pl.length : Int) := by omega
      have K3 : Below wr.heap.size wr (wr.alloc (.cells #[.int .i64 (a : Int)] 3)) := (Below.refl _ _).alloc (Nat.le_refl _) _
      have HGr : Hid (GOk wr p n (aft es) (bef es)) := (HGy.out.later HZ1.out).later HB.out
      have HC := Lib.hid (reach_any (HGr.out.later K3) (lit_int wr [(a : Int)] _ 1 rfl rfl (by simp)) (by simp))
      have HK3 : Hid (Below z1.heap.size z1 (wr.alloc (.cells #[.int .i64 (a : Int)] 3))) := HB.out.trans (K3.mono HB.out.size)
      have HRch : Hid (b ∈ seenL (reachedF (aft es) n (nodesF n [(a : Int)])) n ↔ bq = true) := by
        show _ ↔ _
        rw [HJ.out.reach]
        unfold seenL
        rw [List.mem_filter, List.mem_range, decide_eq_true_iff, reached_iff (fun _ _ => mem_aft) Hin.out nodes_lt Hab.out.2]
        have : nodesF n [(a : Int)] = [a] := by
          unfold nodesF
          have hna : nodeB n (a : Int) = true := nodeB_iff.2 (by have := Hab.out.1; omega)
          simp [hna]
        rw [this]
        simp [Hab.out.2]
      have Hsl : Hid ((seenL (reachedF (aft es) n (nodesF n [(a : Int)])) n).length ≤ 30) := by have := seen_len (reachedF (aft es) n (nodesF n [(a : Int)])) n; have := Hn.out; show _ ≤ _; omega
      clear K3 HMp HNo hlt Hi HGr
      go_wp2_with fail
      refine HC.out.mono ?_
      rintro r z3 ⟨v3, rfl, ho3, hb3⟩
      have HB3 : Hid (Below z1.heap.size z1 z3) := HK3.out.trans (hb3.mono HK3.out.size)
      obtain ⟨sl, hsl⟩ : ∃ s, seenL (reachedF (aft es) n (nodesF n [(a : Int)])) n = s := ⟨_, rfl⟩
      rw [hsl] at ho3 HRch Hsl
      have HRow := Lib.hid ho3.row
      obtain ⟨a3, c3, e3, -⟩ := ho3.row.form
      subst e3
      have HP3 := Lib.hid (HR.out.later HB3.out)
      clear hsl ho3 hb3 HC HK3
      go_wp2
      go_loopg [15, 17] sl.length (fun gj tv jv wr => ∃ i : Nat, Hid (i + gj = sl.length) ∧ tv = .bool (decide (b ∈ sl.take i)) ∧ jv = .int .i64 i ∧ wr = z3)
      case atStart => exact ⟨0, Nat.zero_add _, by simp, rfl, rfl⟩
      case round =>
        obtain ⟨i, Hi, rfl, rfl, rfl⟩ := hrel
        by_cases hlti : i < sl.length
        · obtain ⟨y, hy⟩ : ∃ y, sl[i]? = some y := ⟨_, List.getElem?_eq_getElem hlti⟩
          obtain ⟨g, off, rfl, hca⟩ := HRow.out.at_ hy
          have d1 := hca 0 _ rfl
          simp only [kNat, Nat.mul_one, Nat.add_zero] at d1
          have hst : decide (b ∈ sl.take (i + 1)) = (decide (b ∈ sl.take i) || decide (y = b)) := by
            rw [List.take_add_one, hy, Bool.eq_iff_iff, Bool.or_eq_true, decide_eq_true_iff, decide_eq_true_iff, decide_eq_true_iff, List.mem_append]
            simp [eq_comm]
          have Hst := Lib.hid hst
          have hij : (i : Int) < (sl.length : Int) := by omega
          have his : i ≤ 30 := by have := Hsl.out; omega
          have Hlti := Lib.hid hlti
          obtain ⟨tb, htb⟩ : ∃ tb, decide (b ∈ sl.take i) = tb := ⟨_, rfl⟩
          rw [htb] at Hst ⊢
          clear hst htb hlti hca hy
          cases tb
          · by_cases hyb : y = b
            · have hyd : decide (y = b) = true := decide_eq_true hyb
              rw [hyd] at Hst
              subst hyb
              clear hyd
              go_wp2
              go_roundg (sl.length - (i + 1))
              case measure => have := Hi.out; have := Hlti.out; omega
              case rel => exact ⟨i + 1, by have := Hi.out; have := Hlti.out; show _ = _; omega, by rw [Hst.out]; rfl, by go_num, rfl⟩
            · have hyd : decide (y = b) = false := decide_eq_false hyb
              rw [hyd] at Hst
              have hybi : ¬ (y : Int) = (b : Int) := by omega
              clear hyd
              go_wp2
              go_roundg (sl.length - (i + 1))
              case measure => have := Hi.out; have := Hlti.out; omega
              case rel => exact ⟨i + 1, by have := Hi.out; have := Hlti.out; show _ = _; omega, by rw [Hst.out]; first | rfl | (simp [hybi]), by go_num, rfl⟩
          · go_wp2
            go_roundg (sl.length - (i + 1))
            case measure => have := Hi.out; have := Hlti.out; omega
            case rel => exact ⟨i + 1, by have := Hi.out; have := Hlti.out; show _ = _; omega, by rw [Hst.out]; rfl, by go_num, rfl⟩
        · have hij : ¬ (i : Int) < (sl.length : Int) := by omega
          have hbq : decide (b ∈ sl) = bq := by rw [Bool.eq_iff_iff, decide_eq_true_iff]; exact HRch.out
          rw [List.take_of_length_le (by omega), hbq]
          have HFin : Hid (Below w.heap.size w wr) := HBy.out.trans ((HZ1.out.trans (HB3.out.mono HZ1.out.size)).mono HBy.out.size)
          clear hbq hlti
          cases bq
          · have hpl0 : pl.length = 0 := by
              have := HJ.out.pos
              refine Classical.byContradiction (fun q => ?_)
              have := this.2 (by omega)
              cases this
            have Hpl0 := Lib.hid hpl0
            have hpi : (pl.length : Int) = 0 := by omega
            have hpn : ¬ (0 : Int) < (pl.length : Int) := by omega
            clear hpl0
            go_wp2
            go_ret
            exact ⟨rfl, HFin.out⟩
          · have hpos := HJ.out.pos.1 rfl
            obtain ⟨g, off, rfl, hca⟩ := HP3.out.at_ (HJ.out.first rfl)
            have d1 := hca 0 _ rfl
            obtain ⟨g', off', hgg, hcb⟩ := HP3.out.at_ (HJ.out.last rfl)
            cases hgg
            have d2 := hcb 0 _ rfl
            simp only [kNat, Nat.mul_one, Nat.add_zero] at d1 d2
            obtain ⟨q, hq⟩ : ∃ q, pl.length = q + 1 := ⟨pl.length - 1, by omega⟩
            rw [hq, Nat.add_sub_cancel] at d2
            have hqs : q ≤ 30 := by have := Hpl.out; omega
            rw [hq]
            have hqi : (0 : Int) < (q : Int) + 1 := by omega
            clear hca hcb hpos
            have HQ := Lib.hid hq
            clear hq
            go_wp2
            go_ret
            exact ⟨rfl, HFin.out⟩
end Go.Proofs.Yteiddebjbiadbaa
