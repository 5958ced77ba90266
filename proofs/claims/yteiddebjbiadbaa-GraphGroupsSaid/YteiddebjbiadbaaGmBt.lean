/- reference 08: Between. (printed by wip/gen_gmbt.py) -/
import Derived.Test.YteiddebjbiadbaaGmRv
import Derived.Test.YteiddebjbiadbaaGmQa
namespace Go.Proofs.Yteiddebjbiadbaa
open Go.RowKit Gr
attribute [local go_sem ↓] Go.wp_at_zero Go.wp_at_succ

set_option linter.unusedSimpArgs false in
set_option maxHeartbeats 1600000 in
theorem rBetween_any {w : World} {n : Nat} {v vf vt : Value} {es : List Ed} {S T : List Int} (h : RowK kE w v (es.map ofEd)) (hl : es.length ≤ 65536) (hin : Ins n es) (hn : n ≤ 4096) (hS : RowK kInt w vf S) (hSl : S.length ≤ 100000) (hT : RowK kInt w vt T) (hTl : T.length ≤ 100000) :
    Calls Try.prog 19 #[.agg #[.int .i64 (n : Int), v], vf, vt] w fun r w' => ∃ v', r = .returned v' ∧ OwnK kNat w.heap.size w' v' (bothL (marksF es (n + 1) (startF n (nodesF n S))) (marksF (refNew (turn es)) (n + 1) (startF n (nodesF n T))) n) ∧ Below w.heap.size w w' := by
  obtain ⟨av, cv, rfl, -⟩ := h.form
  obtain ⟨af, cf, rfl, -⟩ := hS.form
  obtain ⟨at', ct, rfl, -⟩ := hT.form
  rw [List.length_map] at h ⊢
  obtain ⟨w1, hw1⟩ : ∃ w1, w.alloc (.cells #[.int .i64 (n : Int), .slice av es.length cv] 27) = w1 := ⟨_, rfl⟩
  have hb1 : Below w.heap.size w w1 := by rw [← hw1]; exact (Below.refl _ _).alloc (Nat.le_refl _) _
  have hr1 : RowIs w1 w.heap.size 27 [.int .i64 (n : Int), .slice av es.length cv] := by rw [← hw1]; exact new_row _ _ _
  have H := Lib.hid (h.later hb1)
  have HS := Lib.hid (hS.later hb1)
  have HT := Lib.hid (hT.later hb1)
  have HG := Lib.hid hr1
  have HM1 : Hid (∀ W, Below w1.heap.size w1 W → Calls Try.prog 42 #[.agg #[.int .i64 (n : Int), .slice av es.length cv], .slice af S.length cf] W fun r w' => ∃ b, r = .returned (.slice (some ⟨b, 0, none⟩) n n) ∧ BoolRow w' b (marksF es (n + 1) (startF n (nodesF n S))) ∧ W.heap.size ≤ b ∧ Below W.heap.size W w') :=
    fun W hW => marks_any (H.out.later hW) (by omega) hin hn (HS.out.later hW) hSl
  have HV : Hid (∀ W, Below w1.heap.size w1 W → Calls Try.prog 35 #[.agg #[.int .i64 (n : Int), .slice av es.length cv]] W fun r w' => ∃ v', r = .returned (.agg #[.int .i64 (n : Int), v']) ∧ OwnK kE W.heap.size w' v' ((refNew (turn es)).map ofEd) ∧ Below W.heap.size W w') :=
    fun W hW => rRev_any (H.out.later hW) hl hin hn
  have Hl := Lib.hid hl
  have Hn := Lib.hid hn
  have hn0 := Lib.hid hn
  have Hin := Lib.hid hin
  have HTl := Lib.hid hTl
  have HBw := Lib.hid hb1
  have hla : (marksF es (n + 1) (startF n (nodesF n S))).length = n := (marks_start hin nodes_lt).1
  have hlb : (marksF (refNew (turn es)) (n + 1) (startF n (nodesF n T))).length = n := (marks_start (back_ins hin) nodes_lt).1
  have Hlla := Lib.hid hla
  have Hllb := Lib.hid hlb
  clear h hS hT hin hr1 hb1 hla hlb
  go_enter Try.func19, Try.ntmps19
  go_upto_region 2 with fail
  clear hw1
  have c0 := HG.out.cell (i := 0) rfl
  have c1 := HG.out.cell (i := 1) rfl
  obtain ⟨s, hs⟩ : ∃ s, w.heap.size = s := ⟨_, rfl⟩
  rw [hs] at HG c0 c1 ⊢
  clear hs
  refine wp_region_held_drew (S := (fun W => W.cell? ⟨s, 0, none⟩ = some (.int .i64 (n : Int)) ∧ W.cell? ⟨s, 1, none⟩ = some (.slice av es.length cv))) (by kernel_rfl) (⟨c0, c1⟩) (fun hH0 => ?_)
  refine wpAnyH_take (i := 0) (v := ?_) rfl (by kernel_rfl) (by kernel_rfl) (by kernel_rfl) (fun _ _ _ h => h) (Or.inl ⟨by rfl, ?_⟩) (by assumption) ?_
  rotate_left
  · (intro wx hSw; (try dsimp only at hSw); go_simp <;> with_reducible rfl)
  try simp only [Act.put, List.setIfInBounds_toArray, List.set_cons_zero, List.set_cons_succ, List.getElem_toArray, List.getElem_cons_zero, List.getElem_cons_succ]
  refine wpAnyH_take (i := 1) (v := ?_) rfl (by kernel_rfl) (by kernel_rfl) (by kernel_rfl) (fun _ _ _ h => h) (Or.inl ⟨by rfl, ?_⟩) (by assumption) ?_
  rotate_left
  · (intro wx hSw; (try dsimp only at hSw); go_simp <;> with_reducible rfl)
  try simp only [Act.put, List.setIfInBounds_toArray, List.set_cons_zero, List.set_cons_succ, List.getElem_toArray, List.getElem_cons_zero, List.getElem_cons_succ]
  refine wpAnyH_take (i := 3) (v := ?_) rfl (by kernel_rfl) (by kernel_rfl) (by kernel_rfl) (fun _ _ _ h => h) (Or.inl ⟨by rfl, ?_⟩) (by assumption) ?_
  rotate_left
  · (intro wx hSw; (try dsimp only at hSw); go_simp <;> with_reducible rfl)
  try simp only [Act.put, List.setIfInBounds_toArray, List.set_cons_zero, List.set_cons_succ, List.getElem_toArray, List.getElem_cons_zero, List.getElem_cons_succ]
  refine wpAnyH_take (i := 5) (v := ?_) rfl (by kernel_rfl) (by kernel_rfl) (by kernel_rfl) (fun _ _ _ h => h) (Or.inl ⟨by rfl, ?_⟩) (by assumption) ?_
  rotate_left
  · (intro wx hSw; (try dsimp only at hSw); go_simp <;> with_reducible rfl)
  try simp only [Act.put, List.setIfInBounds_toArray, List.set_cons_zero, List.set_cons_succ, List.getElem_toArray, List.getElem_cons_zero, List.getElem_cons_succ]
  refine wpAnyH_ready (rs := [2]) (by kernel_rfl) (by simp) ?_
  refine AllReadyH.cons rfl (fun K hK => ?_) AllReadyH.nil
  go_simp
  go_at_call 42
  with_reducible refine (HM1.out _ (Below.refl _ _).drew).mono ?_
  rintro r w2 ⟨sa, rfl, hra, -, hb2⟩
  have HB2 : Hid (Below w1.heap.size w1 w2) := (Below.refl w1.heap.size w1).drew.trans hb2
  have Hra := Lib.hid hra
  clear hra HM1
  go_wp2_with fail
  refine hK.out _ _ (⟨cellL hH0.1 hb2, cellL hH0.2 hb2⟩) (fun hH1 => ?_)
  clear hK K hH0
  try simp only [Act.put, List.setIfInBounds_toArray, List.set_cons_zero, List.set_cons_succ, List.getElem_toArray, List.getElem_cons_zero, List.getElem_cons_succ]
  clear hb2
  refine wpAnyH_ready (rs := [4]) (by kernel_rfl) (by simp) ?_
  refine AllReadyH.cons rfl (fun K hK => ?_) AllReadyH.nil
  go_simp
  go_at_call 35
  with_reducible refine (HV.out w2 HB2.out).mono ?_
  rintro r w3 ⟨v3, rfl, ho3, hb3⟩
  have HB3 : Hid (Below w1.heap.size w1 w3) := HB2.out.trans (hb3.mono HB2.out.size)
  have Hra3 := Lib.hid (RowIs.later Hra.out hb3)
  have HN := Lib.hid (marks_any (n := n) ho3.row (by have := refNew_len (turn es); unfold turn at this; rw [List.length_map] at this; have := Hl.out; unfold turn; omega) (back_ins Hin.out) Hn.out (HT.out.later HB3.out) HTl.out)
  obtain ⟨a3, c3, e3, -⟩ := ho3.row.form
  obtain ⟨m3, hm3⟩ : ∃ m, ((refNew (turn es)).map ofEd).length = m := ⟨_, rfl⟩
  rw [hm3] at e3
  subst e3
  clear hm3 ho3 HV Hra
  go_wp2_with fail
  refine hK.out _ _ (⟨cellL hH1.1 hb3, cellL hH1.2 hb3⟩) (fun hH2 => ?_)
  clear hK K hH1
  try simp only [Act.put, List.setIfInBounds_toArray, List.set_cons_zero, List.set_cons_succ, List.getElem_toArray, List.getElem_cons_zero, List.getElem_cons_succ]
  clear hb3
  refine wpAnyH_ready (rs := [6]) (by kernel_rfl) (by simp) ?_
  refine AllReadyH.cons rfl (fun K hK => ?_) AllReadyH.nil
  go_simp
  go_at_call 42
  with_reducible refine HN.out.mono ?_
  rintro r w4 ⟨sb, rfl, hrb, -, hb4⟩
  have HB4 : Hid (Below w1.heap.size w1 w4) := HB3.out.trans (hb4.mono HB3.out.size)
  have Hrb := Lib.hid hrb
  have Hra := Lib.hid (RowIs.later Hra3.out hb4)
  clear hrb HN Hra3
  go_wp2_with fail
  refine hK.out _ _ (⟨cellL hH2.1 hb4, cellL hH2.2 hb4⟩) (fun hH3 => ?_)
  clear hK K hH2
  try simp only [Act.put, List.setIfInBounds_toArray, List.set_cons_zero, List.set_cons_succ, List.getElem_toArray, List.getElem_cons_zero, List.getElem_cons_succ]
  clear hb4
  refine wpAnyH_take (i := 7) (v := ?_) rfl (by kernel_rfl) (by kernel_rfl) (by kernel_rfl) (fun _ _ _ h => h) (Or.inl ⟨by rfl, ?_⟩) (by assumption) ?_
  rotate_left
  · (intro wx hSw; (try dsimp only at hSw); go_simp <;> with_reducible rfl)
  try simp only [Act.put, List.setIfInBounds_toArray, List.set_cons_zero, List.set_cons_succ, List.getElem_toArray, List.getElem_cons_zero, List.getElem_cons_succ]
  refine wpAnyH_take (i := 8) (v := ?_) rfl (by kernel_rfl) (by kernel_rfl) (by kernel_rfl) (fun _ _ _ h => h) (Or.inl ⟨by rfl, ?_⟩) (by assumption) ?_
  rotate_left
  · (intro wx hSw; (try dsimp only at hSw); go_simp <;> with_reducible rfl)
  try simp only [Act.put, List.setIfInBounds_toArray, List.set_cons_zero, List.set_cons_succ, List.getElem_toArray, List.getElem_cons_zero, List.getElem_cons_succ]
  refine wpAnyH_done (by kernel_rfl) ?_ _
  obtain ⟨g, hg⟩ : ∃ g, marksF es (n + 1) (startF n (nodesF n S)) = g := ⟨_, rfl⟩
  obtain ⟨k, hk⟩ : ∃ g, marksF (refNew (turn es)) (n + 1) (startF n (nodesF n T)) = g := ⟨_, rfl⟩
  rw [hg] at Hlla Hra
  rw [hk] at Hllb Hrb
  have Hgg := Lib.hid hg
  have Hkk := Lib.hid hk
  have hsb : Hid (sb < w4.heap.size ∧ sa < w4.heap.size) := ⟨RowIs.lt Hrb.out, RowIs.lt Hra.out⟩
  have HB0 : Hid (Below w.heap.size w w4) := HBw.out.trans (HB4.out.mono HBw.out.size)
  have Hgx := Lib.hid (HG.out.later HB4.out)
  clear hg hk c0 c1
  go_wp2
  go_loopg [7, 10] n (fun gk lv iv wr => ∃ i : Nat, i + gk = n ∧ iv = .int .i64 i ∧ Hid (OwnK kNat w4.heap.size wr lv (bothL g k i)) ∧ Hid (Below w4.heap.size w4 wr))
  case atStart => exact ⟨0, by omega, rfl, OwnK.nil _ _, Below.refl _ _⟩
  case round =>
    obtain ⟨i, hi, rfl, HO, HB⟩ := hrel
    have Hi := Lib.hid hi
    have g0 := cellL (Hgx.out.cell (i := 0) rfl) HB.out
    by_cases hlt : i < n
    · have d1 := (BoolRow.at_ (RowIs.later Hra.out HB.out) (i := i) (by rw [Hlla.out]; exact hlt))
      have d2 := (BoolRow.at_ (RowIs.later Hrb.out HB.out) (i := i) (by rw [Hllb.out]; exact hlt))
      have hli : (i : Int) < (n : Int) := by omega
      have his : i < 4096 := by omega
      have hsu : bothL g k (i + 1) = bothL g k i ++ if val g i ≠ 0 ∧ val k i ≠ 0 then [i] else [] := by
        unfold bothL
        rw [List.range_succ, List.filter_append]
        by_cases q : val g i ≠ 0 ∧ val k i ≠ 0
        · rw [if_pos q]; simp [q.1, q.2]
        · rw [if_neg q]
          by_cases q1 : val g i = 0
          · simp [q1]
          · have q2 : val k i = 0 := Classical.byContradiction (fun q2 => q ⟨q1, q2⟩)
            simp [q2]
      have Hsu := Lib.hid hsu
      have Hlt := Lib.hid hlt
      have hll : Hid ((bothL g k i).length + 1 ≤ 1000000) := by
        show _ ≤ _
        have : (bothL g k i).length ≤ i := by unfold bothL; exact Nat.le_trans (List.length_filter_le _ _) (by simp)
        omega
      clear hsu hi hlt
      by_cases hv : val g i ≠ 0 ∧ val k i ≠ 0
      · rw [if_pos hv] at Hsu
        rw [decide_eq_true hv.1] at d1
        rw [decide_eq_true hv.2] at d2
        clear hv
        go_wp2_with (first
          | (at_builtin; refine wpList_append_one (K := kNat) rfl _ _ rfl w4.heap.size u7 (bothL g k i) rfl HO.out i _ _ rfl rfl hll.out HB.out.size ?_; intro v9 w9 ho9 hg9 _; have HO9 := Lib.hid ho9; have HB9 : Hid (Below w4.heap.size w4 w9) := OwnK.below HO.out hg9 HB.out (Nat.le_refl _); clear ho9 hg9 HO HB d1 d2 g0)
          | go_in)
        go_roundg (n - (i + 1))
        case measure => have := Hi.out; have := Hlt.out; omega
        case rel =>
          refine ⟨i + 1, by have := Hi.out; have := Hlt.out; omega, by go_num, ?_, HB9⟩
          rw [Hsu.out]; exact HO9
      · rw [if_neg hv, List.append_nil] at Hsu
        have HO2 : Hid (OwnK kNat w4.heap.size wr u7 (bothL g k (i + 1))) := by rw [Hsu.out]; exact HO
        clear HO Hsu
        by_cases q1 : val g i ≠ 0
        · have q2 : ¬ val k i ≠ 0 := fun q2 => hv ⟨q1, q2⟩
          rw [decide_eq_true q1] at d1
          rw [decide_eq_false q2] at d2
          clear hv q1 q2
          go_wp2
          go_roundg (n - (i + 1))
          case measure => have := Hi.out; have := Hlt.out; omega
          case rel => exact ⟨i + 1, by have := Hi.out; have := Hlt.out; omega, by go_num, HO2, HB⟩
        · rw [decide_eq_false q1] at d1
          clear hv q1
          go_wp2
          go_roundg (n - (i + 1))
          case measure => have := Hi.out; have := Hlt.out; omega
          case rel => exact ⟨i + 1, by have := Hi.out; have := Hlt.out; omega, by go_num, HO2, HB⟩
    · have hli : ¬ (i : Int) < (n : Int) := by omega
      obtain rfl : i = n := by omega
      go_wp2
      go_ret
      exact ⟨_, rfl, by rw [Hgg.out, Hkk.out]; exact HO.out.mono HB0.out.size, HB0.out.trans (HB.out.mono HB0.out.size)⟩
end Go.Proofs.Yteiddebjbiadbaa
