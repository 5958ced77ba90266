/- law 08: GraphNew. (printed by wip/gen_gmln.py) -/
import Derived.Test.YteiddebjbiadbaaGmLs
import Derived.Test.YteiddebjbiadbaaGmD
import Derived.Test.YteiddebjbiadbaaGmE
namespace Go.Proofs.Yteiddebjbiadbaa
open Go.RowKit Gr
attribute [local go_sem ↓] Go.wp_at_zero Go.wp_at_succ

open Classical in
/-- The error's number. -/
noncomputable def errK (nodes : Int) (l : List (Int × Int)) : Int := if nodes < 0 ∨ 4096 < nodes then 2 else if 65536 < l.length then 9 else if ∃ e ∈ l, ¬ goodE nodes.toNat e then 8 else 0
theorem newP {w w' : World} {nodes : Int} {l : List (Int × Int)} {r : Ending} (h : NewPost w nodes l r w') : Below w.heap.size w w' ∧ ((errK nodes l ≠ 0 ∧ r = .returned (.tuple #[.pointer none, .int .i64 (errK nodes l)])) ∨ (errK nodes l = 0 ∧ (0 ≤ nodes ∧ nodes ≤ 4096) ∧ (∀ e ∈ l, goodE nodes.toNat e) ∧ NewOk w nodes.toNat l r w')) := by
  obtain ⟨hb, q⟩ := h
  refine ⟨hb, ?_⟩
  unfold errK
  rcases q with ⟨q, hr⟩ | ⟨q0, q, hr⟩ | ⟨q0, q, q2, hr⟩ | ⟨q0, q, q2, hr⟩
  · rw [if_pos q]; exact .inl ⟨by decide, hr⟩
  · rw [if_neg (by omega), if_pos q]; exact .inl ⟨by decide, hr⟩
  · rw [if_neg (by omega), if_neg (by omega), if_pos q2]; exact .inl ⟨by decide, hr⟩
  · rw [if_neg (by omega), if_neg (by omega), if_neg (fun ⟨e, he, hne⟩ => hne (q2 e he))]; exact .inr ⟨rfl, q0, q2, hr⟩
theorem rnewP {w w' : World} {nodes : Int} {l : List (Int × Int)} {r : Ending} (h : RNewPost w nodes l r w') : Below w.heap.size w w' ∧ ((errK nodes l ≠ 0 ∧ r = .returned (rErr (errK nodes l))) ∨ (errK nodes l = 0 ∧ ∃ v, r = .returned (.tuple #[.agg #[.int .i64 nodes, v], .int .i64 0]) ∧ OwnK kE w.heap.size w' v ((esOf l).map ofEd))) := by
  obtain ⟨hb, q⟩ := h
  refine ⟨hb, ?_⟩
  unfold errK
  rcases q with ⟨q, hr⟩ | ⟨q0, q, hr⟩ | ⟨q0, q, q2, hr⟩ | ⟨q0, q, q2, hr⟩
  · rw [if_pos q]; exact .inl ⟨by decide, hr⟩
  · rw [if_neg (by omega), if_pos q]; exact .inl ⟨by decide, hr⟩
  · rw [if_neg (by omega), if_neg (by omega), if_pos q2]; exact .inl ⟨by decide, hr⟩
  · rw [if_neg (by omega), if_neg (by omega), if_neg (fun ⟨e, he, hne⟩ => hne (q2 e he))]; exact .inr ⟨rfl, hr⟩
set_option linter.unusedSimpArgs false in
set_option maxHeartbeats 1600000 in
theorem lawNew_any {w : World} {nodes : Int} {v : Value} {l : List (Int × Int)} (h : RowK kE w v l) (hl : l.length ≤ 9223372036854775807) :
    Calls Try.prog 5 #[.int .i64 nodes, v] w (TruePost w) := by
  obtain ⟨av, cv, rfl, -⟩ := h.form
  have H := Lib.hid h
  clear h
  go_enter Try.func5, Try.ntmps5
  go_wp2_with fail
  refine (known_any _).mono ?_
  rintro r x2 ⟨rfl, hb2⟩
  have HB2 : Hid (Below w.heap.size w x2) := hb2
  clear hb2
  by_cases hq0 : (100 : Int) < (l.length : Int)
  · go_wp2_with fail
    refine (known_any _).mono ?_
    rintro r x3 ⟨rfl, hb3⟩
    have HB3 : Hid (Below w.heap.size w x3) := HB2.out.trans (hb3.mono HB2.out.size)
    clear hb3
    go_wp2
    go_ret
    exact ⟨rfl, HB3.out⟩
  have Hq : Hid (l.length ≤ 100) := by show _ ≤ _; omega
  have HT := Lib.hid (to_any (H.out.later HB2.out) (by omega))
  go_wp2_with fail
  refine HT.out.mono ?_
  rintro r x3 ⟨v3, rfl, ho3, hb3⟩
  have HB3 : Hid (Below w.heap.size w x3) := HB2.out.trans (hb3.mono HB2.out.size)
  have HN := Lib.hid (new_any (nodes := nodes) ho3.row (by omega))
  obtain ⟨a3, c3, e3, -⟩ := ho3.row.form
  subst e3
  clear HT hb3 ho3 HB2
  go_wp2_with fail
  refine HN.out.mono ?_
  rintro r x4 hpost
  obtain ⟨hb4, hpost⟩ := newP hpost
  have HB4 : Hid (Below w.heap.size w x4) := HB3.out.trans (hb4.mono HB3.out.size)
  have HM := Lib.hid (rNew_any (nodes := nodes) (H.out.later HB4.out) (by omega))
  clear HN hb4
  rcases hpost with ⟨hk, rfl⟩ | ⟨hk, hnn, hgd, p, rfl, hG, -⟩
  · have Hk := Lib.hid hk
    go_wp2_with fail
    refine HM.out.mono ?_
    rintro r x5 hpost
    obtain ⟨hb5, hpost⟩ := rnewP hpost
    have HB5 : Hid (Below w.heap.size w x5) := HB4.out.trans (hb5.mono HB4.out.size)
    rcases hpost with ⟨-, rfl⟩ | ⟨q, -⟩
    case inr => exact absurd q hk
    obtain ⟨k, hkk⟩ : ∃ k, errK nodes l = k := ⟨_, rfl⟩
    rw [hkk] at hk ⊢
    unfold rErr
    have hk2 : (k != 0) = true := by simpa using hk
    clear HM hb5 hkk Hk
    go_upto_region 5 with fail
    obtain ⟨y0, hy0⟩ : ∃ y, x5.alloc (.cells #[.int .i64 0, .slice none 0 0] 27) = y := ⟨_, rfl⟩
    have HBy : Hid (Below w.heap.size w y0) := by rw [← hy0]; exact HB5.out.alloc HB5.out.size _
    rw [hy0]
    clear hy0
    go_upto_region 7 with fail
    refine wp_region_held_drew (S := (fun _ => True)) (by kernel_rfl) (trivial) (fun hHN0 => ?_)
    refine wpAnyH_take (i := 0) (v := ?_) rfl (by kernel_rfl) (by kernel_rfl) (by kernel_rfl) (fun _ _ _ h => h) (Or.inl ⟨by rfl, ?_⟩) (by assumption) ?_
    rotate_left
    · (intro wx hSw; (try dsimp only at hSw); go_simp <;> with_reducible rfl)
    try simp only [Act.put, List.setIfInBounds_toArray, List.set_cons_zero, List.set_cons_succ, List.getElem_toArray, List.getElem_cons_zero, List.getElem_cons_succ]
    refine wpAnyH_take (i := 1) (v := ?_) rfl (by kernel_rfl) (by kernel_rfl) (by kernel_rfl) (fun _ _ _ h => h) (Or.inl ⟨by rfl, ?_⟩) (by assumption) ?_
    rotate_left
    · (intro wx hSw; (try dsimp only at hSw); go_simp <;> with_reducible rfl)
    try simp only [Act.put, List.setIfInBounds_toArray, List.set_cons_zero, List.set_cons_succ, List.getElem_toArray, List.getElem_cons_zero, List.getElem_cons_succ]
    refine wpAnyH_take (i := 2) (v := ?_) rfl (by kernel_rfl) (by kernel_rfl) (by kernel_rfl) (fun _ _ _ h => h) (Or.inl ⟨by rfl, ?_⟩) (by assumption) ?_
    rotate_left
    · (intro wx hSw; (try dsimp only at hSw); go_simp <;> with_reducible rfl)
    try simp only [Act.put, List.setIfInBounds_toArray, List.set_cons_zero, List.set_cons_succ, List.getElem_toArray, List.getElem_cons_zero, List.getElem_cons_succ]
    refine wpAnyH_take (i := 3) (v := undef) rfl (by kernel_rfl) (by kernel_rfl) (by kernel_rfl) (fun _ _ _ h => h) (Or.inr ⟨by simp [Region.wanted, yielded, undef], rfl⟩) (by assumption) ?_
    try simp only [Act.put, List.setIfInBounds_toArray, List.set_cons_zero, List.set_cons_succ, List.getElem_toArray, List.getElem_cons_zero, List.getElem_cons_succ]
    refine wpAnyH_take (i := 4) (v := undef) rfl (by kernel_rfl) (by kernel_rfl) (by kernel_rfl) (fun _ _ _ h => h) (Or.inr ⟨by simp [Region.wanted, yielded, undef], rfl⟩) (by assumption) ?_
    try simp only [Act.put, List.setIfInBounds_toArray, List.set_cons_zero, List.set_cons_succ, List.getElem_toArray, List.getElem_cons_zero, List.getElem_cons_succ]
    refine wpAnyH_take (i := 5) (v := undef) rfl (by kernel_rfl) (by kernel_rfl) (by kernel_rfl) (fun _ _ _ h => h) (Or.inr ⟨by simp [Region.wanted, yielded, undef], rfl⟩) (by assumption) ?_
    try simp only [Act.put, List.setIfInBounds_toArray, List.set_cons_zero, List.set_cons_succ, List.getElem_toArray, List.getElem_cons_zero, List.getElem_cons_succ]
    refine wpAnyH_take (i := 6) (v := undef) rfl (by kernel_rfl) (by kernel_rfl) (by kernel_rfl) (fun _ _ _ h => h) (Or.inr ⟨by simp [Region.wanted, yielded, undef], rfl⟩) (by assumption) ?_
    try simp only [Act.put, List.setIfInBounds_toArray, List.set_cons_zero, List.set_cons_succ, List.getElem_toArray, List.getElem_cons_zero, List.getElem_cons_succ]
    refine wpAnyH_take (i := 7) (v := undef) rfl (by kernel_rfl) (by kernel_rfl) (by kernel_rfl) (fun _ _ _ h => h) (Or.inr ⟨by simp [Region.wanted, yielded, undef], rfl⟩) (by assumption) ?_
    try simp only [Act.put, List.setIfInBounds_toArray, List.set_cons_zero, List.set_cons_succ, List.getElem_toArray, List.getElem_cons_zero, List.getElem_cons_succ]
    refine wpAnyH_take (i := 8) (v := undef) rfl (by kernel_rfl) (by kernel_rfl) (by kernel_rfl) (fun _ _ _ h => h) (Or.inr ⟨by simp [Region.wanted, yielded, undef], rfl⟩) (by assumption) ?_
    try simp only [Act.put, List.setIfInBounds_toArray, List.set_cons_zero, List.set_cons_succ, List.getElem_toArray, List.getElem_cons_zero, List.getElem_cons_succ]
    refine wpAnyH_take (i := 9) (v := undef) rfl (by kernel_rfl) (by kernel_rfl) (by kernel_rfl) (fun _ _ _ h => h) (Or.inr ⟨by simp [Region.wanted, yielded, undef], rfl⟩) (by assumption) ?_
    try simp only [Act.put, List.setIfInBounds_toArray, List.set_cons_zero, List.set_cons_succ, List.getElem_toArray, List.getElem_cons_zero, List.getElem_cons_succ]
    refine wpAnyH_take (i := 10) (v := undef) rfl (by kernel_rfl) (by kernel_rfl) (by kernel_rfl) (fun _ _ _ h => h) (Or.inr ⟨by simp [Region.wanted, yielded, undef], rfl⟩) (by assumption) ?_
    try simp only [Act.put, List.setIfInBounds_toArray, List.set_cons_zero, List.set_cons_succ, List.getElem_toArray, List.getElem_cons_zero, List.getElem_cons_succ]
    refine wpAnyH_take (i := 11) (v := undef) rfl (by kernel_rfl) (by kernel_rfl) (by kernel_rfl) (fun _ _ _ h => h) (Or.inr ⟨by simp [Region.wanted, yielded, undef], rfl⟩) (by assumption) ?_
    try simp only [Act.put, List.setIfInBounds_toArray, List.set_cons_zero, List.set_cons_succ, List.getElem_toArray, List.getElem_cons_zero, List.getElem_cons_succ]
    refine wpAnyH_take (i := 12) (v := undef) rfl (by kernel_rfl) (by kernel_rfl) (by kernel_rfl) (fun _ _ _ h => h) (Or.inr ⟨by simp [Region.wanted, yielded, undef], rfl⟩) (by assumption) ?_
    try simp only [Act.put, List.setIfInBounds_toArray, List.set_cons_zero, List.set_cons_succ, List.getElem_toArray, List.getElem_cons_zero, List.getElem_cons_succ]
    refine wpAnyH_take (i := 13) (v := undef) rfl (by kernel_rfl) (by kernel_rfl) (by kernel_rfl) (fun _ _ _ h => h) (Or.inr ⟨by simp [Region.wanted, yielded, undef], rfl⟩) (by assumption) ?_
    try simp only [Act.put, List.setIfInBounds_toArray, List.set_cons_zero, List.set_cons_succ, List.getElem_toArray, List.getElem_cons_zero, List.getElem_cons_succ]
    refine wpAnyH_take (i := 14) (v := ?_) rfl (by kernel_rfl) (by kernel_rfl) (by kernel_rfl) (fun _ _ _ h => h) (Or.inl ⟨by rfl, ?_⟩) (by assumption) ?_
    rotate_left
    · (intro wx hSw; (try dsimp only at hSw); go_simp <;> with_reducible rfl)
    try simp only [Act.put, List.setIfInBounds_toArray, List.set_cons_zero, List.set_cons_succ, List.getElem_toArray, List.getElem_cons_zero, List.getElem_cons_succ]
    refine wpAnyH_take (i := 15) (v := ?_) rfl (by kernel_rfl) (by kernel_rfl) (by kernel_rfl) (fun _ _ _ h => h) (Or.inl ⟨by rfl, ?_⟩) (by assumption) ?_
    rotate_left
    · (intro wx hSw; (try dsimp only at hSw); go_simp <;> with_reducible rfl)
    try simp only [Act.put, List.setIfInBounds_toArray, List.set_cons_zero, List.set_cons_succ, List.getElem_toArray, List.getElem_cons_zero, List.getElem_cons_succ]
    refine wpAnyH_done (by kernel_rfl) ?_ _
    go_wp2
    go_ret
    exact ⟨rfl, HBy.out.drew⟩
  · have Hk := Lib.hid hk
    obtain ⟨n, rfl⟩ := Int.eq_ofNat_of_zero_le hnn.1
    rw [Int.toNat_natCast] at hgd hG
    have Hn : Hid (n ≤ 4096) := by have := hnn.2; show _ ≤ _; omega
    have Hnm : Hid (Norm (esOf l)) := (refNew_ok _).1
    have Hin : Hid (Ins n (esOf l)) := es_ins hgd
    have Hes : Hid ((esOf l).length ≤ 100) := by
      have h1 := refNew_len (l.map toEd)
      rw [List.length_map] at h1
      have := Hq.out
      unfold esOf; show _ ≤ _; omega
    have HG := Lib.hid hG
    clear hk hnn hgd hG
    go_wp2_with fail
    refine HM.out.mono ?_
    rintro r x5 hpost
    obtain ⟨hb5, hpost⟩ := rnewP hpost
    have HB5 : Hid (Below w.heap.size w x5) := HB4.out.trans (hb5.mono HB4.out.size)
    rcases hpost with ⟨q, -⟩ | ⟨-, vg, rfl, hO⟩
    case inl => exact absurd Hk.out q
    obtain ⟨ga, gc, egv, -⟩ := hO.row.form
    obtain ⟨gm, hgm⟩ : ∃ m, ((esOf l).map ofEd).length = m := ⟨_, rfl⟩
    rw [hgm] at egv
    subst egv
    have HO := Lib.hid hO
    have HG5 := Lib.hid (HG.out.later hb5)
    clear hgm HM hb5 hO HG
    go_upto_region 5 with fail
    obtain ⟨y0, hy0⟩ : ∃ y, x5.alloc (.cells #[.int .i64 (n : Int), .slice ga gm gc] 27) = y := ⟨_, rfl⟩
    have hb6 : Below x5.heap.size x5 y0 := by rw [← hy0]; exact (Below.refl _ _).alloc (Nat.le_refl _) _
    have HT : Hid (RowIs y0 x5.heap.size 27 [.int .i64 (n : Int), .slice ga gm gc]) := by rw [← hy0]; exact new_row _ _ _
    have HBy : Hid (Below w.heap.size w y0) := HB5.out.trans (hb6.mono HB5.out.size)
    rw [hy0]
    have HGy := Lib.hid (HG5.out.later hb6)
    have HOy := Lib.hid (HO.out.later hb6)
    clear hy0 hb6
    obtain ⟨t, ht⟩ : ∃ t, x5.heap.size = t := ⟨_, rfl⟩
    rw [ht] at HT ⊢
    clear ht
    have e3 := HT.out.cell (i := 1) rfl
    have Hed : Hid (edgesF (aft (esOf l)) n = esOf l) := edges_aft Hnm.out Hin.out
    have HeL : Hid ((edgesF (aft (esOf l)) n).length ≤ 100000) := by show _ ≤ _; rw [Hed.out]; have := Hes.out; omega
    go_upto_region 7 with fail
    refine wp_region_held_drew (S := (fun W => W.cell? ⟨t, 1, none⟩ = some (.slice ga gm gc))) (by kernel_rfl) (e3) (fun hH0 => ?_)
    refine wpAnyH_take (i := 0) (v := ?_) rfl (by kernel_rfl) (by kernel_rfl) (by kernel_rfl) (fun _ _ _ h => h) (Or.inl ⟨by rfl, ?_⟩) (by assumption) ?_
    rotate_left
    · (intro wx hSw; (try dsimp only at hSw); go_simp <;> with_reducible rfl)
    try simp only [Act.put, List.setIfInBounds_toArray, List.set_cons_zero, List.set_cons_succ, List.getElem_toArray, List.getElem_cons_zero, List.getElem_cons_succ]
    refine wpAnyH_take (i := 1) (v := ?_) rfl (by kernel_rfl) (by kernel_rfl) (by kernel_rfl) (fun _ _ _ h => h) (Or.inl ⟨by rfl, ?_⟩) (by assumption) ?_
    rotate_left
    · (intro wx hSw; (try dsimp only at hSw); go_simp <;> with_reducible rfl)
    try simp only [Act.put, List.setIfInBounds_toArray, List.set_cons_zero, List.set_cons_succ, List.getElem_toArray, List.getElem_cons_zero, List.getElem_cons_succ]
    refine wpAnyH_take (i := 2) (v := ?_) rfl (by kernel_rfl) (by kernel_rfl) (by kernel_rfl) (fun _ _ _ h => h) (Or.inl ⟨by rfl, ?_⟩) (by assumption) ?_
    rotate_left
    · (intro wx hSw; (try dsimp only at hSw); go_simp <;> with_reducible rfl)
    try simp only [Act.put, List.setIfInBounds_toArray, List.set_cons_zero, List.set_cons_succ, List.getElem_toArray, List.getElem_cons_zero, List.getElem_cons_succ]
    refine wpAnyH_take (i := 3) (v := ?_) rfl (by kernel_rfl) (by kernel_rfl) (by kernel_rfl) (fun _ _ _ h => h) (Or.inl ⟨by rfl, ?_⟩) (by assumption) ?_
    rotate_left
    · (intro wx hSw; (try dsimp only at hSw); go_simp <;> with_reducible rfl)
    try simp only [Act.put, List.setIfInBounds_toArray, List.set_cons_zero, List.set_cons_succ, List.getElem_toArray, List.getElem_cons_zero, List.getElem_cons_succ]
    refine wpAnyH_take (i := 5) (v := ?_) rfl (by kernel_rfl) (by kernel_rfl) (by kernel_rfl) (fun _ _ _ h => h) (Or.inl ⟨by rfl, ?_⟩) (by assumption) ?_
    rotate_left
    · (intro wx hSw; (try dsimp only at hSw); go_simp <;> with_reducible rfl)
    try simp only [Act.put, List.setIfInBounds_toArray, List.set_cons_zero, List.set_cons_succ, List.getElem_toArray, List.getElem_cons_zero, List.getElem_cons_succ]
    refine wpAnyH_ready (rs := [4]) (by kernel_rfl) (by simp) ?_
    refine AllReadyH.cons rfl (fun K hK => ?_) AllReadyH.nil
    go_simp
    go_at_call 23
    with_reducible refine (nodes_any (HGy.out.at_.later (Below.refl _ _).drew)).mono ?_
    rintro r y1 ⟨rfl, rfl⟩
    go_wp2_with fail
    refine hK.out _ _ (hH0) (fun hH1 => ?_)
    clear hK K hH0
    try simp only [Act.put, List.setIfInBounds_toArray, List.set_cons_zero, List.set_cons_succ, List.getElem_toArray, List.getElem_cons_zero, List.getElem_cons_succ]
    refine wpAnyH_take (i := 6) (v := ?_) rfl (by kernel_rfl) (by kernel_rfl) (by kernel_rfl) (fun _ _ _ h => h) (Or.inl ⟨by rfl, ?_⟩) (by assumption) ?_
    rotate_left
    · (intro wx hSw; (try dsimp only at hSw); go_simp <;> with_reducible rfl)
    try simp only [Act.put, List.setIfInBounds_toArray, List.set_cons_zero, List.set_cons_succ, List.getElem_toArray, List.getElem_cons_zero, List.getElem_cons_succ]
    refine wpAnyH_take (i := 7) (v := ?_) rfl (by kernel_rfl) (by kernel_rfl) (by kernel_rfl) (fun _ _ _ h => h) (Or.inl ⟨by rfl, ?_⟩) (by assumption) ?_
    rotate_left
    · (intro wx hSw; (try dsimp only at hSw); go_simp <;> with_reducible rfl)
    try simp only [Act.put, List.setIfInBounds_toArray, List.set_cons_zero, List.set_cons_succ, List.getElem_toArray, List.getElem_cons_zero, List.getElem_cons_succ]
    refine wpAnyH_take (i := 8) (v := ?_) rfl (by kernel_rfl) (by kernel_rfl) (by kernel_rfl) (fun _ _ _ h => h) (Or.inl ⟨by rfl, ?_⟩) (by assumption) ?_
    rotate_left
    · (intro wx hSw; (try dsimp only at hSw); go_simp <;> with_reducible rfl)
    try simp only [Act.put, List.setIfInBounds_toArray, List.set_cons_zero, List.set_cons_succ, List.getElem_toArray, List.getElem_cons_zero, List.getElem_cons_succ]
    refine wpAnyH_take (i := 10) (v := ?_) rfl (by kernel_rfl) (by kernel_rfl) (by kernel_rfl) (fun _ _ _ h => h) (Or.inl ⟨by rfl, ?_⟩) (by assumption) ?_
    rotate_left
    · (intro wx hSw; (try dsimp only at hSw); go_simp <;> with_reducible rfl)
    try simp only [Act.put, List.setIfInBounds_toArray, List.set_cons_zero, List.set_cons_succ, List.getElem_toArray, List.getElem_cons_zero, List.getElem_cons_succ]
    refine wpAnyH_take (i := 11) (v := ?_) rfl (by kernel_rfl) (by kernel_rfl) (by kernel_rfl) (fun _ _ _ h => h) (Or.inl ⟨by rfl, ?_⟩) (by assumption) ?_
    rotate_left
    · (intro wx hSw; (try dsimp only at hSw); go_simp <;> with_reducible rfl)
    try simp only [Act.put, List.setIfInBounds_toArray, List.set_cons_zero, List.set_cons_succ, List.getElem_toArray, List.getElem_cons_zero, List.getElem_cons_succ]
    refine wpAnyH_ready (rs := [9]) (by kernel_rfl) (by simp) ?_
    refine AllReadyH.cons rfl (fun K hK => ?_) AllReadyH.nil
    go_simp
    go_at_call 25
    with_reducible refine (edges_any (HGy.out.later (Below.refl _ _).drew) HeL.out).mono ?_
    rintro r y2 ⟨u2, rfl, ho2, hb2⟩
    have HB2 : Hid (Below y0.heap.size y0 y2) := (Below.refl y0.heap.size y0).drew.trans hb2
    rw [Hed.out] at ho2
    have HS := Lib.hid (sameEdges_any ho2.row (HOy.out.row.later HB2.out) (by rw [List.length_map]; have := Hes.out; omega))
    clear ho2
    go_wp2_with fail
    refine hK.out _ _ (cellL hH1 hb2) (fun hH2 => ?_)
    clear hK K hH1
    try simp only [Act.put, List.setIfInBounds_toArray, List.set_cons_zero, List.set_cons_succ, List.getElem_toArray, List.getElem_cons_zero, List.getElem_cons_succ]
    clear hb2
    refine wpAnyH_ready (rs := [12]) (by kernel_rfl) (by simp) ?_
    refine AllReadyH.cons rfl (fun K hK => ?_) AllReadyH.nil
    go_simp
    go_at_call 24
    with_reducible refine HS.out.mono ?_
    rintro r y3 ⟨rfl, hb3⟩
    have HB9 : Hid (Below y0.heap.size y0 y3) := HB2.out.trans (hb3.mono HB2.out.size)
    clear HS
    go_wp2_with fail
    refine hK.out _ _ (cellL hH2 hb3) (fun hH3 => ?_)
    clear hK K hH2
    try simp only [Act.put, List.setIfInBounds_toArray, List.set_cons_zero, List.set_cons_succ, List.getElem_toArray, List.getElem_cons_zero, List.getElem_cons_succ]
    clear hb3
    refine wpAnyH_take (i := 13) (v := ?_) rfl (by kernel_rfl) (by kernel_rfl) (by kernel_rfl) (fun _ _ _ h => h) (Or.inl ⟨by rfl, ?_⟩) (by assumption) ?_
    rotate_left
    · (intro wx hSw; (try dsimp only at hSw); go_simp <;> with_reducible rfl)
    try simp only [Act.put, List.setIfInBounds_toArray, List.set_cons_zero, List.set_cons_succ, List.getElem_toArray, List.getElem_cons_zero, List.getElem_cons_succ]
    refine wpAnyH_take (i := 14) (v := ?_) rfl (by kernel_rfl) (by kernel_rfl) (by kernel_rfl) (fun _ _ _ h => h) (Or.inl ⟨by rfl, ?_⟩) (by assumption) ?_
    rotate_left
    · (intro wx hSw; (try dsimp only at hSw); go_simp <;> with_reducible rfl)
    try simp only [Act.put, List.setIfInBounds_toArray, List.set_cons_zero, List.set_cons_succ, List.getElem_toArray, List.getElem_cons_zero, List.getElem_cons_succ]
    refine wpAnyH_take (i := 15) (v := ?_) rfl (by kernel_rfl) (by kernel_rfl) (by kernel_rfl) (fun _ _ _ h => h) (Or.inl ⟨by rfl, ?_⟩) (by assumption) ?_
    rotate_left
    · (intro wx hSw; (try dsimp only at hSw); go_simp <;> with_reducible rfl)
    try simp only [Act.put, List.setIfInBounds_toArray, List.set_cons_zero, List.set_cons_succ, List.getElem_toArray, List.getElem_cons_zero, List.getElem_cons_succ]
    refine wpAnyH_done (by kernel_rfl) ?_ _
    go_wp2
    go_ret
    exact ⟨rfl, HBy.out.trans (HB9.out.mono HBy.out.size)⟩
end Go.Proofs.Yteiddebjbiadbaa
