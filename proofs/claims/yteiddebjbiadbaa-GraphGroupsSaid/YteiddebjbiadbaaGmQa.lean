/- reference 08: Reach. -/
import Derived.Test.YteiddebjbiadbaaGmM
namespace Go.Proofs.Yteiddebjbiadbaa
open Go.RowKit Gr
attribute [local go_sem ↓] Go.wp_at_zero Go.wp_at_succ

set_option maxHeartbeats 1600000 in
theorem rReach_any {w : World} {n : Nat} {v vf : Value} {es : List Ed} {S : List Int} (h : RowK kE w v (es.map ofEd)) (hl : es.length ≤ 100000) (hin : Ins n es) (hn : n ≤ 4096) (hS : RowK kInt w vf S) (hSl : S.length ≤ 100000) :
    Calls Try.prog 17 #[.agg #[.int .i64 (n : Int), v], vf] w fun r w' => ∃ v', r = .returned v' ∧ OwnK kNat w.heap.size w' v' (seenL (marksF es (n + 1) (startF n (nodesF n S))) n) ∧ Below w.heap.size w w' := by
  obtain ⟨av, cv0, rfl, -⟩ := h.form
  obtain ⟨af, cf, rfl, -⟩ := hS.form
  rw [List.length_map] at h ⊢
  obtain ⟨w1, hw1⟩ : ∃ w1, w.alloc (.cells #[.int .i64 (n : Int), .slice av es.length cv0] 27) = w1 := ⟨_, rfl⟩
  have hb1 : Below w.heap.size w w1 := by rw [← hw1]; exact (Below.refl _ _).alloc (Nat.le_refl _) _
  have hr1 : RowIs w1 w.heap.size 27 [.int .i64 (n : Int), .slice av es.length cv0] := by rw [← hw1]; exact new_row _ _ _
  have HR := Lib.hid (marks_any (h.later hb1) hl hin hn (hS.later hb1) hSl)
  have c0 := hr1.cell (i := 0) rfl
  have c1 := hr1.cell (i := 1) rfl
  have Hb1 := Lib.hid hb1
  have Hw1 := Lib.hid hw1
  have hlen : (marksF es (n + 1) (startF n (nodesF n S))).length = n := (marks_ok hin (n + 1) _ (by have := zeros_le (startF n (nodesF n S)); rw [start_len] at this; omega) (start_ok nodes_lt)).1
  clear h hS hb1 hr1 hw1
  go_enter Try.func17, Try.ntmps17
  go_upto_region 2 with fail
  rw [Hw1.out]
  go_wp2_with fail
  refine HR.out.mono ?_
  rintro r w2 ⟨b, rfl, hrow, hb, hb2⟩
  obtain ⟨g, hg⟩ : ∃ g, marksF es (n + 1) (startF n (nodesF n S)) = g := ⟨_, rfl⟩
  rw [hg] at hrow hlen
  have HB1 : Hid (Below w.heap.size w w2) := Hb1.out.trans (hb2.mono Hb1.out.size)
  have Hrow := Lib.hid hrow
  have Hlen := Lib.hid hlen
  have Hgg := Lib.hid hg
  clear hg hrow hb hb2 hlen HR c0 c1
  go_wp2
  go_loopg [5, 7] n (fun gk lv iv wr => ∃ i : Nat, i + gk = n ∧ iv = .int .i64 i ∧ Hid (OwnK kNat w2.heap.size wr lv (seenL g i)) ∧ Hid (Below w2.heap.size w2 wr))
  case atStart => exact ⟨0, by omega, rfl, OwnK.nil _ _, Below.refl _ _⟩
  case round =>
    obtain ⟨i, hi, rfl, HO, HB⟩ := hrel
    have Hi := Lib.hid hi
    by_cases hlt : i < n
    · have d1 := (BoolRow.at_ (RowIs.later Hrow.out HB.out) (i := i) (by rw [Hlen.out]; exact hlt))
      have hli : (i : Int) < (n : Int) := by omega
      have his : i < 4096 := by omega
      have hsu : seenL g (i + 1) = seenL g i ++ if val g i ≠ 0 then [i] else [] := by
        unfold seenL
        rw [List.range_succ, List.filter_append]
        by_cases q : val g i ≠ 0
        · rw [if_pos q]; simp [q]
        · rw [if_neg q]; simp at q; simp [q]
      have Hsu := Lib.hid hsu
      have Hlt := Lib.hid hlt
      have hll : Hid ((seenL g i).length + 1 ≤ 1000000) := by
        show _ ≤ _
        have : (seenL g i).length ≤ i := by unfold seenL; exact Nat.le_trans (List.length_filter_le _ _) (by simp)
        omega
      clear hsu hi hlt
      by_cases hv : val g i ≠ 0
      · rw [decide_eq_true hv] at d1
        rw [if_pos hv] at Hsu
        clear hv
        go_wp2_with (first
          | (at_builtin; refine wpList_append_one (K := kNat) rfl _ _ rfl w2.heap.size _ (seenL g i) rfl HO.out i _ _ rfl rfl hll.out HB.out.size ?_; intro v9 w9 ho9 hg9 _; have HO9 := Lib.hid ho9; have HB9 : Hid (Below w2.heap.size w2 w9) := OwnK.below HO.out hg9 HB.out (Nat.le_refl _); clear ho9 hg9 HO HB d1)
          | go_in)
        go_roundg (n - (i + 1))
        case measure => have := Hi.out; have := Hlt.out; omega
        case rel =>
          refine ⟨i + 1, by have := Hi.out; have := Hlt.out; omega, by go_num, ?_, HB9⟩
          rw [Hsu.out]; exact HO9
      · rw [decide_eq_false hv] at d1
        rw [if_neg hv, List.append_nil] at Hsu
        clear hv
        go_wp2
        go_roundg (n - (i + 1))
        case measure => have := Hi.out; have := Hlt.out; omega
        case rel =>
          refine ⟨i + 1, by have := Hi.out; have := Hlt.out; omega, by go_num, ?_, HB⟩
          rw [Hsu.out]; exact HO
    · have hli : ¬ (i : Int) < (n : Int) := by omega
      obtain rfl : n = i := by omega
      go_wp2
      go_ret
      exact ⟨_, rfl, by rw [Hgg.out]; exact HO.out.mono HB1.out.size, HB1.out.trans (HB.out.mono HB1.out.size)⟩
end Go.Proofs.Yteiddebjbiadbaa
