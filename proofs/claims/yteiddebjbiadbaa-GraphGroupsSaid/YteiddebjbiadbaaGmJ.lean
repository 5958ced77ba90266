/- reference 08: After, Before. (printed by wip/gen_gmr2.py) -/
import Derived.Test.YteiddebjbiadbaaGmR
namespace Go.Proofs.Yteiddebjbiadbaa
open Go.RowKit Gr
attribute [local go_sem ↓] Go.wp_at_zero Go.wp_at_succ

def aftI (es : List (Int × Int)) (x : Int) : List Int := (es.filter fun e => decide (e.1 = x)).map (·.2)
def befI (es : List (Int × Int)) (x : Int) : List Int := (es.filter fun e => decide (e.2 = x)).map (·.1)
theorem aftI_succ (es : List (Int × Int)) (x : Int) {i : Nat} {e : Int × Int} (h : es[i]? = some e) : aftI (es.take (i + 1)) x = aftI (es.take i) x ++ if e.1 = x then [e.2] else [] := by
  unfold aftI
  rw [List.take_add_one, h, List.filter_append, List.map_append]
  by_cases q : e.1 = x <;> simp [q]
theorem aftI_len (es : List (Int × Int)) (x : Int) (i : Nat) : (aftI (es.take i) x).length ≤ i := by
  unfold aftI
  rw [List.length_map]
  refine Nat.le_trans (List.length_filter_le _ _) ?_
  rw [List.length_take]; omega
set_option maxHeartbeats 1600000 in
theorem rAfter_any {w : World} {n : Int} {v : Value} {es : List (Int × Int)} (h : RowK kE w v es) (hl : es.length ≤ 100000) (x : Int) : Calls Try.prog 31 #[.agg #[.int .i64 n, v], .int .i64 x] w fun r w' => ∃ v', r = .returned v' ∧ OwnK kInt w.heap.size w' v' (aftI es x) ∧ Below w.heap.size w w' := by
  obtain ⟨av, cv, rfl, -⟩ := h.form
  have H := Lib.hid h
  clear h
  go_enter Try.func31, Try.ntmps31
  go_upto_region 1 with fail
  obtain ⟨w1, hw1⟩ : ∃ w1, w.alloc (.cells #[.int .i64 n, .slice av es.length cv] 27) = w1 := ⟨_, rfl⟩
  have hb1 : Below w.heap.size w w1 := by rw [← hw1]; exact (Below.refl _ _).alloc (Nat.le_refl _) _
  have hr1 : RowIs w1 w.heap.size 27 [.int .i64 n, .slice av es.length cv] := by rw [← hw1]; exact new_row _ _ _
  rw [hw1]
  have HR1 := Lib.hid hr1
  have HB1 := Lib.hid hb1
  have Hs1 : Hid (w.heap.size < w1.heap.size) := hr1.lt
  clear hw1 hb1 hr1
  go_wp2
  go_loopg [5, 6] es.length (fun gk vt iv wr => ∃ i : Nat, Hid (i + gk = es.length) ∧ iv = .int .i64 i ∧ Hid (OwnK kInt (w.heap.size + 1) wr vt (aftI (es.take i) x)) ∧ Hid (Below (w.heap.size + 1) w1 wr))
  case atStart => exact ⟨0, Nat.zero_add _, rfl, OwnK.nil _ _, Below.refl _ _⟩
  case round =>
    obtain ⟨i, Hi, rfl, HO, HB⟩ := hrel
    have hBw : Below w.heap.size w wr := HB1.out.trans (HB.out.mono (Nat.le_succ _))
    have HBw := Lib.hid hBw
    have c1 : wr.cell? ⟨w.heap.size, 1, none⟩ = some (.slice av es.length cv) := (RowIs.kept HR1.out (HB.out.block _ (Nat.lt_succ_self _))).cell (i := 1) rfl
    by_cases hlt : i < es.length
    · obtain ⟨⟨ex, ey⟩, hx⟩ : ∃ e, es[i]? = some e := ⟨_, List.getElem?_eq_getElem hlt⟩
      obtain ⟨g, off, c, hv, p1, p2⟩ := H.out.pair hx
      obtain ⟨rfl, rfl⟩ : av = some ⟨g, off, none⟩ ∧ cv = c := by simpa using hv
      have d1 := cellL p1 hBw
      have d2 := cellL p2 hBw
      have hii : (i : Int) < (es.length : Int) := by omega
      have hst := aftI_succ es x hx
      have hln := aftI_len es x i
      dsimp only at hst
      have Hlt := Lib.hid hlt
      have Hll : Hid ((aftI (es.take i) x).length + 1 ≤ 1000000) := by show _ ≤ _; omega
      have Hsz : Hid (w.heap.size + 1 ≤ wr.heap.size) := Nat.le_trans Hs1.out HB.out.size
      clear hln hlt hv p1 p2 hx hBw
      by_cases hq : ex = x
      · rw [if_pos hq] at hst
        have Hst := Lib.hid hst
        clear hst
        go_wp2_with (first
          | (at_builtin; refine wpList_append_one (K := kInt) rfl _ _ rfl (w.heap.size + 1) _ (aftI (es.take i) x) rfl HO.out ey _ _ rfl rfl Hll.out Hsz.out ?_; intro v9 w9 ho9 hg9 hat9; have HO9 := Lib.hid ho9; have HB9 : Hid (Below (w.heap.size + 1) w1 w9) := below_grow HB.out hg9 Hs1.out (fun k hk => (HO.out.lt hk).1); clear ho9 hg9 hat9)
          | go_in)
        go_roundg (es.length - (i + 1))
        case measure => have := Hi.out; have := Hlt.out; omega
        case rel => exact ⟨i + 1, by have := Hi.out; have := Hlt.out; show _ = _; omega, by go_num, by rw [Hst.out]; exact HO9, HB9⟩
      · rw [if_neg hq, List.append_nil] at hst
        have Hst := Lib.hid hst
        clear hst
        go_wp2
        go_roundg (es.length - (i + 1))
        case measure => have := Hi.out; have := Hlt.out; omega
        case rel => exact ⟨i + 1, by have := Hi.out; have := Hlt.out; show _ = _; omega, by go_num, by rw [Hst.out]; exact HO, HB⟩
    · have hii : ¬ (i : Int) < (es.length : Int) := by omega
      rw [List.take_of_length_le (by omega)] at HO
      go_wp2
      go_ret
      exact ⟨_, rfl, HO.out.mono (Nat.le_succ _), HBw.out⟩
theorem befI_succ (es : List (Int × Int)) (x : Int) {i : Nat} {e : Int × Int} (h : es[i]? = some e) : befI (es.take (i + 1)) x = befI (es.take i) x ++ if e.2 = x then [e.1] else [] := by
  unfold befI
  rw [List.take_add_one, h, List.filter_append, List.map_append]
  by_cases q : e.2 = x <;> simp [q]
theorem befI_len (es : List (Int × Int)) (x : Int) (i : Nat) : (befI (es.take i) x).length ≤ i := by
  unfold befI
  rw [List.length_map]
  refine Nat.le_trans (List.length_filter_le _ _) ?_
  rw [List.length_take]; omega
set_option maxHeartbeats 1600000 in
theorem rBefore_any {w : World} {n : Int} {v : Value} {es : List (Int × Int)} (h : RowK kE w v es) (hl : es.length ≤ 100000) (x : Int) : Calls Try.prog 33 #[.agg #[.int .i64 n, v], .int .i64 x] w fun r w' => ∃ v', r = .returned v' ∧ OwnK kInt w.heap.size w' v' (befI es x) ∧ Below w.heap.size w w' := by
  obtain ⟨av, cv, rfl, -⟩ := h.form
  have H := Lib.hid h
  clear h
  go_enter Try.func33, Try.ntmps33
  go_upto_region 1 with fail
  obtain ⟨w1, hw1⟩ : ∃ w1, w.alloc (.cells #[.int .i64 n, .slice av es.length cv] 27) = w1 := ⟨_, rfl⟩
  have hb1 : Below w.heap.size w w1 := by rw [← hw1]; exact (Below.refl _ _).alloc (Nat.le_refl _) _
  have hr1 : RowIs w1 w.heap.size 27 [.int .i64 n, .slice av es.length cv] := by rw [← hw1]; exact new_row _ _ _
  rw [hw1]
  have HR1 := Lib.hid hr1
  have HB1 := Lib.hid hb1
  have Hs1 : Hid (w.heap.size < w1.heap.size) := hr1.lt
  clear hw1 hb1 hr1
  go_wp2
  go_loopg [5, 6] es.length (fun gk vt iv wr => ∃ i : Nat, Hid (i + gk = es.length) ∧ iv = .int .i64 i ∧ Hid (OwnK kInt (w.heap.size + 1) wr vt (befI (es.take i) x)) ∧ Hid (Below (w.heap.size + 1) w1 wr))
  case atStart => exact ⟨0, Nat.zero_add _, rfl, OwnK.nil _ _, Below.refl _ _⟩
  case round =>
    obtain ⟨i, Hi, rfl, HO, HB⟩ := hrel
    have hBw : Below w.heap.size w wr := HB1.out.trans (HB.out.mono (Nat.le_succ _))
    have HBw := Lib.hid hBw
    have c1 : wr.cell? ⟨w.heap.size, 1, none⟩ = some (.slice av es.length cv) := (RowIs.kept HR1.out (HB.out.block _ (Nat.lt_succ_self _))).cell (i := 1) rfl
    by_cases hlt : i < es.length
    · obtain ⟨⟨ex, ey⟩, hx⟩ : ∃ e, es[i]? = some e := ⟨_, List.getElem?_eq_getElem hlt⟩
      obtain ⟨g, off, c, hv, p1, p2⟩ := H.out.pair hx
      obtain ⟨rfl, rfl⟩ : av = some ⟨g, off, none⟩ ∧ cv = c := by simpa using hv
      have d1 := cellL p1 hBw
      have d2 := cellL p2 hBw
      have hii : (i : Int) < (es.length : Int) := by omega
      have hst := befI_succ es x hx
      have hln := befI_len es x i
      dsimp only at hst
      have Hlt := Lib.hid hlt
      have Hll : Hid ((befI (es.take i) x).length + 1 ≤ 1000000) := by show _ ≤ _; omega
      have Hsz : Hid (w.heap.size + 1 ≤ wr.heap.size) := Nat.le_trans Hs1.out HB.out.size
      clear hln hlt hv p1 p2 hx hBw
      by_cases hq : ey = x
      · rw [if_pos hq] at hst
        have Hst := Lib.hid hst
        clear hst
        go_wp2_with (first
          | (at_builtin; refine wpList_append_one (K := kInt) rfl _ _ rfl (w.heap.size + 1) _ (befI (es.take i) x) rfl HO.out ex _ _ rfl rfl Hll.out Hsz.out ?_; intro v9 w9 ho9 hg9 hat9; have HO9 := Lib.hid ho9; have HB9 : Hid (Below (w.heap.size + 1) w1 w9) := below_grow HB.out hg9 Hs1.out (fun k hk => (HO.out.lt hk).1); clear ho9 hg9 hat9)
          | go_in)
        go_roundg (es.length - (i + 1))
        case measure => have := Hi.out; have := Hlt.out; omega
        case rel => exact ⟨i + 1, by have := Hi.out; have := Hlt.out; show _ = _; omega, by go_num, by rw [Hst.out]; exact HO9, HB9⟩
      · rw [if_neg hq, List.append_nil] at hst
        have Hst := Lib.hid hst
        clear hst
        go_wp2
        go_roundg (es.length - (i + 1))
        case measure => have := Hi.out; have := Hlt.out; omega
        case rel => exact ⟨i + 1, by have := Hi.out; have := Hlt.out; show _ = _; omega, by go_num, by rw [Hst.out]; exact HO, HB⟩
    · have hii : ¬ (i : Int) < (es.length : Int) := by omega
      rw [List.take_of_length_le (by omega)] at HO
      go_wp2
      go_ret
      exact ⟨_, rfl, HO.out.mono (Nat.le_succ _), HBw.out⟩
end Go.Proofs.Yteiddebjbiadbaa
