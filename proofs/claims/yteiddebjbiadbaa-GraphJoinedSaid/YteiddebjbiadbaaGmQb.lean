/- reference 08: far. -/
import Derived.Test.YteiddebjbiadbaaGmM
import Derived.Test.YteiddebjbiadbaaGmP
namespace Go.Proofs.Yteiddebjbiadbaa
open Go.RowKit Gr
attribute [local go_sem ↓] Go.wp_at_zero Go.wp_at_succ

theorem neg_set {n i : Nat} (hi : i < n) : (List.replicate i (-1 : Int) ++ List.replicate (n - i) 0).set i (-1) = List.replicate (i + 1) (-1) ++ List.replicate (n - (i + 1)) 0 := by
  rw [List.set_append_right _ _ (by simp), List.replicate_succ', List.append_assoc]
  congr 1
  rw [List.length_replicate, Nat.sub_self]
  obtain ⟨k, hk⟩ : ∃ k, n - i = k + 1 := ⟨n - i - 1, by omega⟩
  rw [hk, show n - (i + 1) = k by omega, List.replicate_succ]
  rfl
theorem far_len (d : Nat) : ∀ (fs : List Ed) (L : List Int), (fs.foldl (farRow d) L).length = L.length
  | [], _ => rfl
  | e :: fs, L => by
    rw [List.foldl_cons, far_len d fs]
    unfold farRow
    split
    · exact List.length_set ..
    · rfl
/-- far under way. -/
structure FrAt (w wr : World) (s b n : Nat) (v : Value) (L : List Int) : Prop where
  low : Below w.heap.size w wr
  box : RowIs wr s 27 [.int .i64 (n : Int), v]
  row : RowIs wr b 3 (L.map (Value.int .i64))
  len : L.length = n
  up : w.heap.size ≤ s ∧ w.heap.size ≤ b ∧ s ≠ b
theorem FrAt.set {w wr : World} {s b n : Nat} {v : Value} {L : List Int} (h : FrAt w wr s b n v L) (i : Nat) (c : Int) : FrAt w (wr.setCell ⟨b, i, none⟩ (.int .i64 c)) s b n v (L.set i c) :=
  ⟨h.low.setCell (p := ⟨b, i, none⟩) h.up.2.1 _, RowIs.other_set h.box (fun e => h.up.2.2 e.symm) _ _, numRow_set h.row i c, by rw [List.length_set]; exact h.len, h.up⟩
set_option maxHeartbeats 3200000 in
theorem far_any {w : World} {n t : Nat} {v : Value} {es : List Ed} (h : RowK kE w v (es.map ofEd)) (hl : es.length ≤ 100000) (hin : Ins n es) (hn : n ≤ 4096) (ht : t < n) :
    Calls Try.prog 40 #[.agg #[.int .i64 (n : Int), v], .int .i64 (t : Int)] w fun r w' => ∃ b, r = .returned (.slice (some ⟨b, 0, none⟩) n n) ∧ RowIs w' b 3 ((farF es n t).map (Value.int .i64)) ∧ w.heap.size ≤ b ∧ Below w.heap.size w w' := by
  obtain ⟨av, cv0, rfl, -⟩ := h.form
  rw [List.length_map] at h ⊢
  have H := Lib.hid h
  have Hin := Lib.hid hin
  have hti : (t : Int) < (n : Int) := by omega
  have Ht := Lib.hid ht
  have hmk := run_make_row' (P := Try.prog) 30 3 (.int .i64 0) 8 Try.underlying30 (by kernel_rfl) rfl .i64 .i64 n (by omega) (by omega)
  clear h hin ht
  go_enter Try.func40, Try.ntmps40
  go_upto_region 2 with fail
  obtain ⟨x1, hx1⟩ : ∃ x1, w.alloc (.cells #[.int .i64 (n : Int), .slice av es.length cv0] 27) = x1 := ⟨_, rfl⟩
  have b1 : Below w.heap.size w x1 := by rw [← hx1]; exact (Below.refl _ _).alloc (Nat.le_refl _) _
  have r1 : RowIs x1 (w.heap.size) 27 [.int .i64 (n : Int), .slice av es.length cv0] := by rw [← hx1]; exact new_row _ _ _
  have z1 : x1.heap.size = w.heap.size + 1 := by rw [← hx1, World.size_alloc]
  obtain ⟨x2, hx2⟩ : ∃ x2, x1.alloc (.cells (madeCells #[.int .i64 0] n) 3) = x2 := ⟨_, rfl⟩
  have b2 : Below x1.heap.size x1 x2 := by rw [← hx2]; exact (Below.refl _ _).alloc (Nat.le_refl _) _
  have r2 : RowIs x2 (w.heap.size + 1) 3 (List.replicate n (.int .i64 0)) := by rw [← hx2, ← z1]; exact made_row _ _ _ _
  have z2 : x2.heap.size = w.heap.size + 1 + 1 := by rw [← hx2, World.size_alloc, z1]
  rw [hx1, hx2]
  have H0 : Hid (FrAt w x2 w.heap.size (w.heap.size + 1) n (.slice av es.length cv0) (List.replicate 0 (-1) ++ List.replicate (n - 0) 0)) := by
    refine ⟨b1.trans (b2.mono (by omega)), r1.later b2, ?_, by simp, by omega⟩
    rw [show (List.replicate 0 (-1 : Int) ++ List.replicate (n - 0) (0 : Int)).map (Value.int .i64) = List.replicate n (Value.int .i64 0) from by simp]
    exact r2
  clear hx1 hx2 b1 b2 r1 r2 z1 z2 hmk
  obtain ⟨b, hb⟩ : ∃ b, w.heap.size + 1 = b := ⟨_, rfl⟩
  obtain ⟨s, hs⟩ : ∃ b, w.heap.size = b := ⟨_, rfl⟩
  rw [hb, hs] at H0
  rw [hb, hs]
  clear hb hs
  go_wp2
  go_loopg [6] n (fun gk iv wr => ∃ i : Nat, Hid (i + gk = n) ∧ iv = .int .i64 i ∧ Hid (FrAt w wr s b n (.slice av es.length cv0) (List.replicate i (-1) ++ List.replicate (n - i) 0)))
  case atStart => exact ⟨0, Nat.zero_add _, rfl, H0⟩
  case round =>
    clear H0
    obtain ⟨i, Hi, rfl, HM⟩ := hrel
    have g0 := HM.out.box.cell (i := 0) rfl
    by_cases hlt : i < n
    · have d3 := numRow_at HM.out.row (i := i) (by rw [HM.out.len]; exact hlt)
      have d4 := RowIs.free HM.out.row i
      have HM2 := HM.out.set i (-1)
      rw [neg_set hlt] at HM2
      have HM2 := Lib.hid HM2
      have hii : (i : Int) < (n : Int) := by omega
      have his : i ≤ 4096 := by omega
      have Hlt := Lib.hid hlt
      clear hlt
      go_wp2
      go_roundg (n - (i + 1))
      case measure => have := Hi.out; have := Hlt.out; omega
      case rel => exact ⟨i + 1, by have := Hi.out; have := Hlt.out; show _ = _; omega, by go_num, HM2⟩
    · have hii : ¬ (i : Int) < (n : Int) := by omega
      obtain rfl : n = i := by have := Hi.out; omega
      rw [Nat.sub_self, List.replicate_zero, List.append_nil] at HM
      have d3 := numRow_at HM.out.row (i := t) (by rw [HM.out.len]; exact Ht.out)
      have d4 := RowIs.free HM.out.row t
      have HM2 : Hid (FrAt w _ s b n (.slice av es.length cv0) ((List.range 0).foldl (fun L d => es.foldl (farRow d) L) ((List.replicate n (-1)).set t 0))) := HM.out.set t 0
      clear hlt
      go_upto_region 7 with fail
      obtain ⟨W, hW⟩ : ∃ W, wr.setCell ⟨b, t, none⟩ (.int .i64 0) = W := ⟨_, rfl⟩
      rw [hW] at HM2 ⊢
      clear hW d3 d4 g0 HM
      go_wp2
      go_loopg [7] n (fun gk dv wr2 => ∃ d : Nat, Hid (d + gk = n) ∧ dv = .int .i64 d ∧ Hid (FrAt w wr2 s b n (.slice av es.length cv0) ((List.range d).foldl (fun L d => es.foldl (farRow d) L) ((List.replicate n (-1)).set t 0))))
      case atStart => exact ⟨0, Nat.zero_add _, rfl, HM2⟩
      case round =>
        clear HM2
        obtain ⟨d, Hd, rfl, HM⟩ := hrel
        have g0 := HM.out.box.cell (i := 0) rfl
        have g1 := HM.out.box.cell (i := 1) rfl
        by_cases hlt : d < n
        · have hdi : (d : Int) < (n : Int) := by omega
          have hds : d ≤ 4096 := by omega
          have Hlt := Lib.hid hlt
          have hsu : (List.range (d + 1)).foldl (fun L d => es.foldl (farRow d) L) ((List.replicate n (-1)).set t 0) = es.foldl (farRow d) ((List.range d).foldl (fun L d => es.foldl (farRow d) L) ((List.replicate n (-1)).set t 0)) := by rw [List.range_succ, List.foldl_append]; rfl
          have Hsu := Lib.hid hsu
          obtain ⟨L, hL⟩ : ∃ L, (List.range d).foldl (fun L d => es.foldl (farRow d) L) ((List.replicate n (-1)).set t 0) = L := ⟨_, rfl⟩
          rw [hL] at HM Hsu
          clear hlt hsu hL
          go_wp2
          go_loopg [8] es.length (fun gj jv wr2 => ∃ j : Nat, Hid (j + gj = es.length) ∧ jv = .int .i64 j ∧ Hid (FrAt w wr2 s b n (.slice av es.length cv0) ((es.take j).foldl (farRow d) L)))
          case atStart => exact ⟨0, Nat.zero_add _, rfl, HM⟩
          case round =>
            clear HM g0 g1
            obtain ⟨j, Hj, rfl, HM⟩ := hrel
            have g1 := HM.out.box.cell (i := 1) rfl
            by_cases hjl : j < es.length
            · obtain ⟨⟨p, q⟩, he⟩ : ∃ e, es[j]? = some e := ⟨_, List.getElem?_eq_getElem hjl⟩
              obtain ⟨g, off, c, hv, p1, p2⟩ := H.out.pair (i := j) (x := (p : Int)) (y := (q : Int)) (by rw [List.getElem?_map, he]; rfl)
              obtain ⟨rfl, rfl⟩ : av = some ⟨g, off, none⟩ ∧ cv0 = c := by simpa using hv
              have d1 := cellL p1 HM.out.low
              have d2 := cellL p2 HM.out.low
              obtain ⟨hpn, hqn⟩ := Hin.out _ (List.mem_of_getElem? he)
              dsimp only at hpn hqn
              have hst : (es.take (j + 1)).foldl (farRow d) L = farRow d ((es.take j).foldl (farRow d) L) (p, q) := by
                rw [List.take_add_one, he, List.foldl_append]; rfl
              obtain ⟨L1, hS⟩ : ∃ S, (es.take j).foldl (farRow d) L = S := ⟨_, rfl⟩
              rw [hS] at HM hst
              have d3 := numRow_at HM.out.row (i := p) (by rw [HM.out.len]; exact hpn)
              have d4 := numRow_at HM.out.row (i := q) (by rw [HM.out.len]; exact hqn)
              have f4 := RowIs.free HM.out.row p
              unfold farRow at hst
              dsimp only at hst
              have hji : (j : Int) < (es.length : Int) := by omega
              have hpi : (p : Int) < (n : Int) := by omega
              have hqi : (q : Int) < (n : Int) := by omega
              have Hjl := Lib.hid hjl
              have hjs : j ≤ 100000 := by omega
              have HM2 := Lib.hid (HM.out.set p ((d : Int) + 1))
              clear hv p1 p2 he hjl hS
              by_cases q1 : at_ L1 q = (d : Int)
              · by_cases q2 : at_ L1 p < 0
                · rw [if_pos ⟨q1, q2⟩] at hst
                  have Hst : Hid ((es.take (j + 1)).foldl (farRow d) L = L1.set p ((d : Int) + 1)) := hst
                  clear hst
                  go_wp2
                  go_roundg (es.length - (j + 1))
                  case measure => have := Hj.out; have := Hjl.out; omega
                  case rel => exact ⟨j + 1, by have := Hj.out; have := Hjl.out; show _ = _; omega, by go_num, by rw [Hst.out]; exact HM2⟩
                · rw [if_neg (fun h => q2 h.2)] at hst
                  have Hst : Hid ((es.take (j + 1)).foldl (farRow d) L = L1) := hst
                  clear hst
                  go_wp2
                  go_roundg (es.length - (j + 1))
                  case measure => have := Hj.out; have := Hjl.out; omega
                  case rel => exact ⟨j + 1, by have := Hj.out; have := Hjl.out; show _ = _; omega, by go_num, by rw [Hst.out]; exact HM⟩
              · rw [if_neg (fun h => q1 h.1)] at hst
                have Hst : Hid ((es.take (j + 1)).foldl (farRow d) L = L1) := hst
                clear hst
                go_wp2
                go_roundg (es.length - (j + 1))
                case measure => have := Hj.out; have := Hjl.out; omega
                case rel => exact ⟨j + 1, by have := Hj.out; have := Hjl.out; show _ = _; omega, by go_num, by rw [Hst.out]; exact HM⟩
            · have hji : ¬ (j : Int) < (es.length : Int) := by omega
              rw [List.take_of_length_le (by omega), ← Hsu.out] at HM
              clear hjl
              go_wp2
              go_roundg (n - (d + 1))
              case measure => have := Hd.out; have := Hlt.out; omega
              case rel => exact ⟨d + 1, by have := Hd.out; have := Hlt.out; show _ = _; omega, by go_num, HM⟩
        · have hdi : ¬ (d : Int) < (n : Int) := by omega
          obtain rfl : n = d := by have := Hd.out; omega
          go_wp2
          go_ret
          exact ⟨b, rfl, HM.out.row, HM.out.up.2.1, HM.out.low⟩
end Go.Proofs.Yteiddebjbiadbaa
