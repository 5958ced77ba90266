/- law 08: Make. (printed by wip/gen_gmmk.py) -/
import Derived.Test.YteiddebjbiadbaaGmRv
import Derived.Test.YteiddebjbiadbaaGmV
namespace Go.Proofs.Yteiddebjbiadbaa
open Go.RowKit Gr
attribute [local go_sem ↓] Go.wp_at_zero Go.wp_at_succ

theorem wrapU (x : Int) : IntKind.u64.wrap x = x % 18446744073709551616 := by simp [IntKind.wrap, IntKind.bits, IntKind.signed]
theorem wrapU_nat {n : Nat} (h : n ≤ 1000) : IntKind.u64.wrap (n : Int) = n := by rw [wrapU]; omega
theorem wrapI_nat {n : Nat} (h : n ≤ 1000) : IntKind.i64.wrap (n : Int) = n := by
  have : IntKind.i64.wrap (n : Int) = (if (9223372036854775808 : Int) ≤ (n : Int) % 18446744073709551616 then (n : Int) % 18446744073709551616 - 18446744073709551616 else (n : Int) % 18446744073709551616) := by simp [IntKind.wrap, IntKind.bits, IntKind.signed]
  rw [this]
  split <;> omega
theorem red_nat {n : Nat} (x : Int) (h : 1 ≤ n) : ∃ a : Nat, (IntKind.u64.wrap x).tmod (n : Int) = (a : Int) ∧ a < n := by
  rw [wrapU, Int.tmod_eq_emod_of_nonneg (by omega)]
  have h1 := Int.emod_nonneg (x % 18446744073709551616) (b := (n : Int)) (by omega)
  have h2 := Int.emod_lt_of_pos (x % 18446744073709551616) (b := (n : Int)) (by omega)
  exact ⟨_, (Int.toNat_of_nonneg h1).symm, by omega⟩
theorem results_tg {fn : Func} {p u : Tmp} (h : fn.results = #[.tmp u, .cell p 27]) (tmps : Array Value) (w : World) (X : Nat) {a b : Value} (hp : tmps.getD p undef = .pointer (some ⟨X, 0, none⟩)) {v : Value} (hu : tmps.getD u undef = v) (ht : RowIs w X 27 [a, b]) :
    (results fn tmps).run Try.prog w = .ok (.tuple #[v, .agg #[a, b]]) w := by
  have hv : (loadVar 27 ⟨X, 0, none⟩).run Try.prog w = .ok (.agg #[a, b]) w := run_loadVar_row w X _ _ _ (0, 0) _ ht Try.underlying27 rfl infoG
  simp only [results, h]
  simp at hp hu
  simp [hp, hu, asAddr, hv]
/-- What Make hands back: a graph and the reference's of the same edges. -/
def MkPost (m : Nat) (w : World) (r : Ending) (w' : World) : Prop :=
  Below w.heap.size w w' ∧ ∃ (n p : Nat) (v : Value) (es : List Ed), r = .returned (.tuple #[.pointer (some ⟨p, 0, none⟩), .agg #[.int .i64 (n : Int), v]]) ∧ 1 ≤ n ∧ n ≤ 30 ∧ es.length ≤ 120 ∧ Norm es ∧ Ins n es ∧ GOk w' p n (aft es) (bef es) ∧ OwnK kE w.heap.size w' v (es.map ofEd) ∧ w.heap.size ≤ p ∧ n = 1 + m % 30
set_option linter.unusedSimpArgs false in
set_option maxHeartbeats 1600000 in
theorem make_any {w : World} {m : Nat} {v : Value} {l : List (Int × Int)} (h : RowK kE w v l) (hl : l.length ≤ 9223372036854775807) (hm : m ≤ 255) :
    Calls Try.prog 12 #[.int .u8 (m : Int), v] w (MkPost m w) := by
  obtain ⟨av, cv, rfl, -⟩ := h.form
  have H := Lib.hid h
  clear h
  go_enter Try.func12, Try.ntmps12
  go_upto_region 1 with fail
  obtain ⟨w1, hw1⟩ : ∃ x1, w.alloc (.cells #[.int .i64 0, .slice none 0 0] 27) = x1 := ⟨_, rfl⟩
  have HB1 : Hid (Below w.heap.size w w1) := by rw [← hw1]; exact (Below.refl _ _).alloc (Nat.le_refl _) _
  have HR1 : Hid (RowIs w1 w.heap.size 27 [.int .i64 0, .slice none 0 0]) := by rw [← hw1]; exact new_row _ _ _
  rw [hw1]
  clear hw1
  obtain ⟨s, hs⟩ : ∃ s, w.heap.size = s := ⟨_, rfl⟩
  have Hs := Lib.hid hs
  rw [hs] at HR1 ⊢
  clear hs
  obtain ⟨k, hk⟩ : ∃ k : Nat, m % 30 = k := ⟨_, rfl⟩
  have hk1 : (m : Int) % 30 = (k : Int) := by omega
  have hk2 : (m : Int).tmod 30 = (k : Int) := by rw [Int.tmod_eq_emod_of_nonneg (by omega)]; exact hk1
  have hks : k < 30 := by omega
  go_upto_region 2 with fail
  obtain ⟨n, hn, hn1, hn2, hn3⟩ : ∃ n : Nat, (1 + (k : Int)) = (n : Int) ∧ 1 ≤ n ∧ n ≤ 30 ∧ n = 1 + m % 30 := ⟨k + 1, by omega, by omega, by omega, by omega⟩
  have Hn3 := Lib.hid hn3
  clear hn3
  rw [hn]
  have Hn : Hid (1 ≤ n ∧ n ≤ 30) := ⟨hn1, hn2⟩
  clear hn hk hk1 hk2 hks
  obtain ⟨K, hK1, hK2, hK3⟩ : ∃ K : Nat, K ≤ l.length ∧ K ≤ 120 ∧ (K = l.length ∨ K = 120) := by
    by_cases q : l.length ≤ 120
    · exact ⟨l.length, Nat.le_refl _, q, .inl rfl⟩
    · exact ⟨120, by omega, by omega, .inr rfl⟩
  have HK : Hid (K ≤ l.length ∧ K ≤ 120 ∧ (K = l.length ∨ K = 120)) := ⟨hK1, hK2, hK3⟩
  clear hK1 hK2 hK3
  go_wp2
  go_loopg [7, 8] K (fun gk vt iv wr => ∃ i : Nat, Hid (i + gk = K) ∧ iv = .int .i64 i ∧ ∃ own : List (Int × Int), Hid (own.length = i ∧ ∀ e ∈ own, goodE n e) ∧ Hid (OwnK kE w1.heap.size wr vt own) ∧ Hid (Below w1.heap.size w1 wr))
  case atStart => exact ⟨0, Nat.zero_add _, rfl, [], ⟨rfl, fun e he => by cases he⟩, OwnK.nil _ _, Below.refl _ _⟩
  case round =>
    obtain ⟨i, Hi, rfl, own, HW, HO, HB⟩ := hrel
    obtain ⟨ta, tc, hta, -⟩ := HO.out.row.form
    rw [HW.out.1] at hta
    subst hta
    by_cases hlt : i < K
    · have hil : i < l.length := by have := HK.out.1; omega
      obtain ⟨⟨x, y⟩, hx⟩ : ∃ e, l[i]? = some e := ⟨_, List.getElem?_eq_getElem hil⟩
      obtain ⟨g, off, c, hv, p1, p2⟩ := RowK.pair (H.out.later HB1.out) hx
      obtain ⟨rfl, rfl⟩ : av = some ⟨g, off, none⟩ ∧ cv = c := by simpa using hv
      have Hca : Hid (w1.cell? ⟨g, off + i * 2, none⟩ = some (.int .i64 x) ∧ w1.cell? ⟨g, off + i * 2 + 1, none⟩ = some (.int .i64 y)) := ⟨p1, p2⟩
      have d1 := cellL p1 HB.out
      have d2 := cellL p2 HB.out
      have hii : (i : Int) < (l.length : Int) := by omega
      have hic : (i : Int) < 120 := by have := HK.out.2.1; omega
      have his : i < 120 := by omega
      have hlb : l.length ≤ 9223372036854775807 := hl
      have hn0 : ¬ (n : Int) = 0 := by have := Hn.out.1; omega
      have hwn : IntKind.u64.wrap (n : Int) = n := wrapU_nat (by have := Hn.out.2; omega)
      obtain ⟨a, ha, han⟩ := red_nat (n := n) x Hn.out.1
      obtain ⟨b, hb, hbn⟩ := red_nat (n := n) y Hn.out.1
      have hwa : IntKind.i64.wrap (a : Int) = a := wrapI_nat (by have := Hn.out.2; omega)
      have hwb : IntKind.i64.wrap (b : Int) = b := wrapI_nat (by have := Hn.out.2; omega)
      have hn0' : ¬ n = 0 := by have := Hn.out.1; omega
      have HW2 : Hid ((own ++ [((a : Int), (b : Int))]).length = i + 1 ∧ ∀ e ∈ own ++ [((a : Int), (b : Int))], goodE n e) := by
        refine ⟨by rw [List.length_append, HW.out.1]; rfl, fun e he => ?_⟩
        rcases List.mem_append.1 he with q | q
        · exact HW.out.2 e q
        · obtain rfl : e = ((a : Int), (b : Int)) := by simpa using q
          unfold goodE; dsimp only; omega
      have Hlen : Hid (own.length + [((a : Int), (b : Int))].length ≤ 1000000) := by show _ ≤ _; rw [HW.out.1, List.length_singleton]; omega
      have Hlt := Lib.hid hlt
      clear hlt hv p1 p2 hx
      go_upto_region 6 with fail
      refine wp_region_held_drew (S := (fun W => W.cell? ⟨g, off + i * 2, none⟩ = some (.int .i64 x) ∧ W.cell? ⟨g, off + i * 2 + 1, none⟩ = some (.int .i64 y))) (by kernel_rfl) (⟨d1, d2⟩) (fun hH0 => ?_)
      have N0 := Lib.hid (HO.out.later (Below.refl wr.heap.size wr).drew)
      have B0 : Hid (Below wr.heap.size wr wr.drew) := (Below.refl _ _).drew
      obtain ⟨y0, hy0⟩ : ∃ yw, wr.drew = yw := ⟨_, rfl⟩
      rw [hy0] at N0 B0 hH0 ⊢
      clear hy0
      refine wpAnyH_take (i := 0) (v := ?_) rfl (by kernel_rfl) (by kernel_rfl) (by kernel_rfl) (fun _ _ _ h => h) (Or.inl ⟨by rfl, ?_⟩) (by assumption) ?_
      rotate_left
      · (intro wx hSw; have q1 := hSw.1; have q2 := hSw.2; clear hSw; go_simp <;> with_reducible rfl)
      try simp only [Act.put, List.setIfInBounds_toArray, List.set_cons_zero, List.set_cons_succ, List.getElem_toArray, List.getElem_cons_zero, List.getElem_cons_succ]
      refine wpAnyH_take (i := 1) (v := ?_) rfl (by kernel_rfl) (by kernel_rfl) (by kernel_rfl) (fun _ _ _ h => h) (Or.inl ⟨by rfl, ?_⟩) (by assumption) ?_
      rotate_left
      · (intro wx hSw; have q1 := hSw.1; have q2 := hSw.2; clear hSw; go_simp <;> with_reducible rfl)
      try simp only [Act.put, List.setIfInBounds_toArray, List.set_cons_zero, List.set_cons_succ, List.getElem_toArray, List.getElem_cons_zero, List.getElem_cons_succ]
      refine wpAnyH_take (i := 2) (v := ?_) rfl (by kernel_rfl) (by kernel_rfl) (by kernel_rfl) (fun _ _ _ h => h) (Or.inl ⟨by rfl, ?_⟩) (by assumption) ?_
      rotate_left
      · (intro wx hSw; have q1 := hSw.1; have q2 := hSw.2; clear hSw; go_simp <;> with_reducible rfl)
      try simp only [Act.put, List.setIfInBounds_toArray, List.set_cons_zero, List.set_cons_succ, List.getElem_toArray, List.getElem_cons_zero, List.getElem_cons_succ]
      refine wpAnyH_take (i := 7) (v := ?_) rfl (by kernel_rfl) (by kernel_rfl) (by kernel_rfl) (fun _ _ _ h => h) (Or.inl ⟨by rfl, ?_⟩) (by assumption) ?_
      rotate_left
      · (intro wx hSw; have q1 := hSw.1; have q2 := hSw.2; clear hSw; go_simp <;> with_reducible rfl)
      try simp only [Act.put, List.setIfInBounds_toArray, List.set_cons_zero, List.set_cons_succ, List.getElem_toArray, List.getElem_cons_zero, List.getElem_cons_succ]
      refine wpAnyH_take (i := 11) (v := ?_) rfl (by kernel_rfl) (by kernel_rfl) (by kernel_rfl) (fun _ _ _ h => h) (Or.inl ⟨by rfl, ?_⟩) (by assumption) ?_
      rotate_left
      · (intro wx hSw; have q1 := hSw.1; have q2 := hSw.2; clear hSw; go_simp <;> with_reducible rfl)
      try simp only [Act.put, List.setIfInBounds_toArray, List.set_cons_zero, List.set_cons_succ, List.getElem_toArray, List.getElem_cons_zero, List.getElem_cons_succ]
      refine wpAnyH_take (i := 12) (v := ?_) rfl (by kernel_rfl) (by kernel_rfl) (by kernel_rfl) (fun _ _ _ h => h) (Or.inl ⟨by rfl, ?_⟩) (by assumption) ?_
      rotate_left
      · (intro wx hSw; have q1 := hSw.1; have q2 := hSw.2; clear hSw; go_simp <;> with_reducible rfl)
      try simp only [Act.put, List.setIfInBounds_toArray, List.set_cons_zero, List.set_cons_succ, List.getElem_toArray, List.getElem_cons_zero, List.getElem_cons_succ]
      refine wpAnyH_take (i := 17) (v := ?_) rfl (by kernel_rfl) (by kernel_rfl) (by kernel_rfl) (fun _ _ _ h => h) (Or.inl ⟨by rfl, ?_⟩) (by assumption) ?_
      rotate_left
      · (intro wx hSw; have q1 := hSw.1; have q2 := hSw.2; clear hSw; go_simp <;> with_reducible rfl)
      try simp only [Act.put, List.setIfInBounds_toArray, List.set_cons_zero, List.set_cons_succ, List.getElem_toArray, List.getElem_cons_zero, List.getElem_cons_succ]
      refine wpAnyH_take (i := 3) (v := ?_) rfl (by kernel_rfl) (by kernel_rfl) (by kernel_rfl) (fun _ _ _ h => h) (Or.inl ⟨by rfl, ?_⟩) (by assumption) ?_
      rotate_left
      · (intro wx hSw; have q1 := hSw.1; have q2 := hSw.2; clear hSw; go_simp <;> with_reducible rfl)
      try simp only [Act.put, List.setIfInBounds_toArray, List.set_cons_zero, List.set_cons_succ, List.getElem_toArray, List.getElem_cons_zero, List.getElem_cons_succ]
      refine wpAnyH_take (i := 8) (v := ?_) rfl (by kernel_rfl) (by kernel_rfl) (by kernel_rfl) (fun _ _ _ h => h) (Or.inl ⟨by rfl, ?_⟩) (by assumption) ?_
      rotate_left
      · (intro wx hSw; have q1 := hSw.1; have q2 := hSw.2; clear hSw; go_simp <;> with_reducible rfl)
      try simp only [Act.put, List.setIfInBounds_toArray, List.set_cons_zero, List.set_cons_succ, List.getElem_toArray, List.getElem_cons_zero, List.getElem_cons_succ]
      refine wpAnyH_take (i := 13) (v := ?_) rfl (by kernel_rfl) (by kernel_rfl) (by kernel_rfl) (fun _ _ _ h => h) (Or.inl ⟨by rfl, ?_⟩) (by assumption) ?_
      rotate_left
      · (intro wx hSw; have q1 := hSw.1; have q2 := hSw.2; clear hSw; go_simp <;> with_reducible rfl)
      try simp only [Act.put, List.setIfInBounds_toArray, List.set_cons_zero, List.set_cons_succ, List.getElem_toArray, List.getElem_cons_zero, List.getElem_cons_succ]
      refine wpAnyH_take (i := 18) (v := ?_) rfl (by kernel_rfl) (by kernel_rfl) (by kernel_rfl) (fun _ _ _ h => h) (Or.inl ⟨by rfl, ?_⟩) (by assumption) ?_
      rotate_left
      · (intro wx hSw; have q1 := hSw.1; have q2 := hSw.2; clear hSw; go_simp <;> with_reducible rfl)
      try simp only [Act.put, List.setIfInBounds_toArray, List.set_cons_zero, List.set_cons_succ, List.getElem_toArray, List.getElem_cons_zero, List.getElem_cons_succ]
      refine wpAnyH_take (i := 4) (v := ?_) rfl (by kernel_rfl) (by kernel_rfl) (by kernel_rfl) (fun _ _ _ h => h) (Or.inl ⟨by rfl, ?_⟩) (by assumption) ?_
      rotate_left
      · (intro wx hSw; have q1 := hSw.1; have q2 := hSw.2; clear hSw; go_simp <;> with_reducible rfl)
      try simp only [Act.put, List.setIfInBounds_toArray, List.set_cons_zero, List.set_cons_succ, List.getElem_toArray, List.getElem_cons_zero, List.getElem_cons_succ]
      refine wpAnyH_take (i := 14) (v := ?_) rfl (by kernel_rfl) (by kernel_rfl) (by kernel_rfl) (fun _ _ _ h => h) (Or.inl ⟨by rfl, ?_⟩) (by assumption) ?_
      rotate_left
      · (intro wx hSw; have q1 := hSw.1; have q2 := hSw.2; clear hSw; go_simp <;> with_reducible rfl)
      try simp only [Act.put, List.setIfInBounds_toArray, List.set_cons_zero, List.set_cons_succ, List.getElem_toArray, List.getElem_cons_zero, List.getElem_cons_succ]
      refine wpAnyH_take (i := 5) (v := ?_) rfl (by kernel_rfl) (by kernel_rfl) (by kernel_rfl) (fun _ _ _ h => h) (Or.inl ⟨by rfl, ?_⟩) (by assumption) ?_
      rotate_left
      · (intro wx hSw; have q1 := hSw.1; have q2 := hSw.2; clear hSw; go_simp <;> with_reducible rfl)
      try simp only [Act.put, List.setIfInBounds_toArray, List.set_cons_zero, List.set_cons_succ, List.getElem_toArray, List.getElem_cons_zero, List.getElem_cons_succ]
      refine wpAnyH_take (i := 15) (v := ?_) rfl (by kernel_rfl) (by kernel_rfl) (by kernel_rfl) (fun _ _ _ h => h) (Or.inl ⟨by rfl, ?_⟩) (by assumption) ?_
      rotate_left
      · (intro wx hSw; have q1 := hSw.1; have q2 := hSw.2; clear hSw; go_simp <;> with_reducible rfl)
      try simp only [Act.put, List.setIfInBounds_toArray, List.set_cons_zero, List.set_cons_succ, List.getElem_toArray, List.getElem_cons_zero, List.getElem_cons_succ]
      refine wpAnyH_take (i := 6) (v := ?_) rfl (by kernel_rfl) (by kernel_rfl) (by kernel_rfl) (fun _ _ _ h => h) (Or.inl ⟨by rfl, ?_⟩) (by assumption) ?_
      rotate_left
      · (intro wx hSw; have q1 := hSw.1; have q2 := hSw.2; clear hSw; go_simp <;> with_reducible rfl)
      try simp only [Act.put, List.setIfInBounds_toArray, List.set_cons_zero, List.set_cons_succ, List.getElem_toArray, List.getElem_cons_zero, List.getElem_cons_succ]
      refine wpAnyH_take (i := 16) (v := ?_) rfl (by kernel_rfl) (by kernel_rfl) (by kernel_rfl) (fun _ _ _ h => h) (Or.inl ⟨by rfl, ?_⟩) (by assumption) ?_
      rotate_left
      · (intro wx hSw; have q1 := hSw.1; have q2 := hSw.2; clear hSw; go_simp <;> with_reducible rfl)
      try simp only [Act.put, List.setIfInBounds_toArray, List.set_cons_zero, List.set_cons_succ, List.getElem_toArray, List.getElem_cons_zero, List.getElem_cons_succ]
      refine wpAnyH_take (i := 9) (v := ?_) rfl (by kernel_rfl) (by kernel_rfl) (by kernel_rfl) (fun _ _ _ h => h) (Or.inl ⟨by rfl, ?_⟩) (by assumption) ?_
      rotate_left
      · (intro wx hSw; have q1 := hSw.1; have q2 := hSw.2; clear hSw; go_simp <;> with_reducible rfl)
      try simp only [Act.put, List.setIfInBounds_toArray, List.set_cons_zero, List.set_cons_succ, List.getElem_toArray, List.getElem_cons_zero, List.getElem_cons_succ]
      refine wpAnyH_take (i := 19) (v := ?_) rfl (by kernel_rfl) (by kernel_rfl) (by kernel_rfl) (fun _ _ _ h => h) (Or.inl ⟨by rfl, ?_⟩) (by assumption) ?_
      rotate_left
      · (intro wx hSw; have q1 := hSw.1; have q2 := hSw.2; clear hSw; go_simp <;> with_reducible rfl)
      try simp only [Act.put, List.setIfInBounds_toArray, List.set_cons_zero, List.set_cons_succ, List.getElem_toArray, List.getElem_cons_zero, List.getElem_cons_succ]
      refine wpAnyH_take (i := 10) (v := ?_) rfl (by kernel_rfl) (by kernel_rfl) (by kernel_rfl) (fun _ _ _ h => h) (Or.inl ⟨by rfl, ?_⟩) (by assumption) ?_
      rotate_left
      · (intro wx hSw; have q1 := hSw.1; have q2 := hSw.2; clear hSw; go_simp <;> with_reducible rfl)
      try simp only [Act.put, List.setIfInBounds_toArray, List.set_cons_zero, List.set_cons_succ, List.getElem_toArray, List.getElem_cons_zero, List.getElem_cons_succ]
      refine wpAnyH_take (i := 20) (v := ?_) rfl (by kernel_rfl) (by kernel_rfl) (by kernel_rfl) (fun _ _ _ h => h) (Or.inl ⟨by rfl, ?_⟩) (by assumption) ?_
      rotate_left
      · (intro wx hSw; have q1 := hSw.1; have q2 := hSw.2; clear hSw; go_simp <;> with_reducible rfl)
      try simp only [Act.put, List.setIfInBounds_toArray, List.set_cons_zero, List.set_cons_succ, List.getElem_toArray, List.getElem_cons_zero, List.getElem_cons_succ]
      refine wpAnyH_take (i := 21) (v := ?_) rfl (by kernel_rfl) (by kernel_rfl) (by kernel_rfl) (fun _ _ _ h => h) (Or.inl ⟨by rfl, ?_⟩) (by assumption) ?_
      rotate_left
      · (intro wx hSw; have q1 := hSw.1; have q2 := hSw.2; clear hSw; go_simp <;> with_reducible rfl)
      try simp only [Act.put, List.setIfInBounds_toArray, List.set_cons_zero, List.set_cons_succ, List.getElem_toArray, List.getElem_cons_zero, List.getElem_cons_succ]
      refine wpAnyH_ready (rs := [22]) (by kernel_rfl) (by simp) ?_
      refine AllReadyH.cons rfl (fun K hK => ?_) AllReadyH.nil
      have hb : Below y0.heap.size y0 (y0.alloc (.cells #[.int .i64 (a : Int), .int .i64 (b : Int)] 71)) := (Below.refl _ _).alloc (Nat.le_refl _) _
      have As : Hid (RowIs (y0.alloc (.cells #[.int .i64 (a : Int), .int .i64 (b : Int)] 71)) y0.heap.size 71 [.int .i64 (a : Int), .int .i64 (b : Int)]) := new_row y0 71 [.int .i64 (a : Int), .int .i64 (b : Int)]
      have N1 := Lib.hid (N0.out.later hb)
      have B1 := Lib.hid (B0.out.trans (hb.mono B0.out.size))
      go_simp
      refine hK.out _ _ (⟨cellL hH0.1 hb, cellL hH0.2 hb⟩) (fun hH1 => ?_)
      clear hK K hH0 hb N0 B0
      try simp only [Act.put, List.setIfInBounds_toArray, List.set_cons_zero, List.set_cons_succ, List.getElem_toArray, List.getElem_cons_zero, List.getElem_cons_succ]
      obtain ⟨y1, hy1⟩ : ∃ yw, (y0.alloc (.cells #[.int .i64 (a : Int), .int .i64 (b : Int)] 71)) = yw := ⟨_, rfl⟩
      rw [hy1] at N1 B1 As hH1 ⊢
      obtain ⟨bs, hbs⟩ : ∃ b, y0.heap.size = b := ⟨_, rfl⟩
      rw [hbs] at As ⊢
      clear hbs hy1
      refine wpAnyH_ready (rs := [23]) (by kernel_rfl) (by simp) ?_
      refine AllReadyH.cons rfl (fun K hK => ?_) AllReadyH.nil
      refine step_append_K (K := kE) rfl (.tmp 27) (.tmp 49) rfl w1.heap.size (.slice ta i tc) own (by rfl) N1.out (.slice (some ⟨bs, 0, none⟩) 1 1) [((a : Int), (b : Int))] (by rfl) (RowK.one As.out rfl) Hlen.out (Nat.le_trans HB.out.size B1.out.size) ?_
      intro v9 y2 ho9 hg9 hat9
      obtain ⟨a9, m9, c9, rfl⟩ : ∃ a m c, v9 = Value.slice a m c := by
        obtain ⟨a, c, h, -⟩ := (OwnK.row ho9).form
        exact ⟨a, _, c, h⟩
      have HB9 : Hid (Below w1.heap.size w1 y2) := below_grow (HB.out.trans (B1.out.mono HB.out.size)) hg9 (Nat.le_refl _) (fun k hk => (N1.out.lt hk).1)
      have HO9 := Lib.hid ho9
      refine hK.out _ _ (⟨cellL Hca.out.1 HB9.out, cellL Hca.out.2 HB9.out⟩) (fun hH2 => ?_)
      clear hK K hH1 ho9 hg9 hat9 N1 B1 As
      try simp only [Act.put, List.setIfInBounds_toArray, List.set_cons_zero, List.set_cons_succ, List.getElem_toArray, List.getElem_cons_zero, List.getElem_cons_succ]
      refine wpAnyH_take (i := 24) (v := ?_) rfl (by kernel_rfl) (by kernel_rfl) (by kernel_rfl) (fun _ _ _ h => h) (Or.inl ⟨by rfl, ?_⟩) (by assumption) ?_
      rotate_left
      · (intro wx hSw; have q1 := hSw.1; have q2 := hSw.2; clear hSw; go_simp <;> with_reducible rfl)
      try simp only [Act.put, List.setIfInBounds_toArray, List.set_cons_zero, List.set_cons_succ, List.getElem_toArray, List.getElem_cons_zero, List.getElem_cons_succ]
      refine wpAnyH_done (by kernel_rfl) ?_ _
      go_wp2
      go_roundg (K - (i + 1))
      case measure => have := Hi.out; have := Hlt.out; omega
      case rel => exact ⟨i + 1, by have := Hi.out; have := Hlt.out; show _ = _; omega, by go_num, _, HW2, HO9, HB9⟩
    · have hik : i = K := by have := Hi.out; omega
      subst hik
      have HT := Lib.hid (to_any HO.out.row (by rw [HW.out.1]; have := HK.out.2.1; omega))
      have HB2 : Hid (Below w.heap.size w wr) := HB1.out.trans (HB.out.mono HB1.out.size)
      have Hown := Lib.hid (HO.out.mono HB1.out.size)
      have hcnd : (¬ (i : Int) < (l.length : Int)) ∨ ((i : Int) < (l.length : Int) ∧ ¬ (i : Int) < 120) := by have := HK.out; omega
      clear hlt HO
      have HR2 := Lib.hid (HR1.out.later HB.out)
      clear HB
      have HGw : Hid (Norm (esOf own) ∧ Ins n (esOf own) ∧ (esOf own).length ≤ 120) := ⟨(refNew_ok _).1, es_ins HW.out.2, by
        have h1 := refNew_len (own.map toEd)
        rw [List.length_map, HW.out.1] at h1
        have := HK.out.2.1
        unfold esOf; omega⟩
      rcases hcnd with hc | ⟨hc1, hc2⟩
      all_goals
        go_wp2_with fail
        refine HT.out.mono ?_
        rintro r w3 ⟨v3, rfl, ho3, hb3⟩
        have HB3 : Hid (Below w.heap.size w w3) := HB2.out.trans (hb3.mono HB2.out.size)
        have HR3 := Lib.hid (HR2.out.later hb3)
        have HO3 := Lib.hid (Hown.out.later hb3)
        have HN := Lib.hid (new_ok (n := n) ho3.row (by rw [HW.out.1]; have := HK.out.2.1; omega) (by have := Hn.out.2; omega) HW.out.2)
        obtain ⟨a3, c3, e3, -⟩ := ho3.row.form
        rw [HW.out.1] at e3
        subst e3
        clear HT hb3 ho3
        go_wp2_with fail
        refine HN.out.mono ?_
        rintro r w4 ⟨hb4, p, rfl, hG4, hp⟩
        have HB4 : Hid (Below w.heap.size w w4) := HB3.out.trans (hb4.mono HB3.out.size)
        have HR4 := Lib.hid (HR3.out.later hb4)
        have HO4 := Lib.hid (HO3.out.later hb4)
        have HG4 := Lib.hid hp.2
        have Hp : Hid (w.heap.size ≤ p) := Nat.le_trans HB3.out.size hp.1
        have Hs3 : Hid (s < w3.heap.size ∧ w3.heap.size ≤ w4.heap.size) := ⟨RowIs.lt HR3.out, hb4.size⟩
        have HM := Lib.hid (rNew_ok (n := n) HO4.out.row (by rw [HW.out.1]; have := HK.out.2.1; omega) (by have := Hn.out.2; omega) HW.out.2)
        clear HN hb4 hG4 hp
        go_wp2_with fail
        refine HM.out.mono ?_
        rintro r w5 ⟨v5, rfl, ho5, hb5⟩
        have HB5 : Hid (Below w.heap.size w w5) := HB4.out.trans (hb5.mono HB4.out.size)
        have HR5 := Lib.hid (HR4.out.later hb5)
        have HK5 : Hid (∀ k, k < w4.heap.size → w5.heap[k]? = w4.heap[k]?) := fun k hk => hb5.block k hk
        have Hs5 : Hid (w4.heap.size ≤ w5.heap.size) := hb5.size
        have HO5 := Lib.hid ho5
        obtain ⟨a5, c5, e5, -⟩ := ho5.row.form
        obtain ⟨m5, hm5⟩ : ∃ m, ((esOf own).map ofEd).length = m := ⟨_, rfl⟩
        rw [hm5] at e5
        subst e5
        clear hm5 HM hb5 ho5
        go_upto_region 9 with fail
        obtain ⟨y1, hy1⟩ : ∃ y, w5.alloc (.cells #[.int .i64 (n : Int), .slice a5 m5 c5] 27) = y := ⟨_, rfl⟩
        have hb6 : Below w5.heap.size w5 y1 := by rw [← hy1]; exact (Below.refl _ _).alloc (Nat.le_refl _) _
        have hr6 : RowIs y1 w5.heap.size 27 [.int .i64 (n : Int), .slice a5 m5 c5] := by rw [← hy1]; exact new_row _ _ _
        rw [hy1]
        have HB6 : Hid (Below w.heap.size w y1) := HB5.out.trans (hb6.mono HB5.out.size)
        have HK6 : Hid (∀ k, k < w4.heap.size → y1.heap[k]? = w4.heap[k]?) := fun k hk => (hb6.block k (Nat.lt_of_lt_of_le hk Hs5.out)).trans (HK5.out k hk)
        have HO6 := Lib.hid (HO5.out.later hb6)
        have HR6 := Lib.hid (HR5.out.later hb6)
        have e1 := hr6.cell (i := 0) rfl
        have e2 := hr6.cell (i := 1) rfl
        have f1 := HR6.out.cell (i := 0) rfl
        have f2 := HR6.out.cell (i := 1) rfl
        have f3 := RowIs.free HR6.out 0
        have f4 := RowIs.free HR6.out 1
        clear hy1 hb6 hr6 HO5 HR5 HB5 HK5
        obtain ⟨t4, ht4⟩ : ∃ t, w5.heap.size = t := ⟨_, rfl⟩
        rw [ht4] at e1 e2 ⊢
        clear ht4
        have hsw : w.heap.size ≤ s := Nat.le_of_eq Hs.out
        have HE : Hid (MkPost m w (.returned (.tuple #[.pointer (some ⟨p, 0, none⟩), .agg #[.int .i64 (n : Int), .slice a5 m5 c5]])) ((y1.setCell ⟨s, 0, none⟩ (.int .i64 n)).setCell ⟨s, 1, none⟩ (.slice a5 m5 c5)).drew ∧ RowIs ((y1.setCell ⟨s, 0, none⟩ (.int .i64 n)).setCell ⟨s, 1, none⟩ (.slice a5 m5 c5)).drew s 27 [.int .i64 n, .slice a5 m5 c5]) := by
          refine ⟨⟨((HB6.out.setCell (p := ⟨s, 0, none⟩) hsw _).setCell (p := ⟨s, 1, none⟩) hsw _).drew, n, p, _, esOf own, rfl, Hn.out.1, Hn.out.2, HGw.out.2.2, HGw.out.1, HGw.out.2.1, HG4.out _ (fun k h1 h2 => ?_), ?_, Hp.out, Hn3.out⟩, RowIs.set (RowIs.set HR6.out 0 _) 1 _⟩
          · have hks : k ≠ s := by have := Hs3.out.1; omega
            exact (Below.heap_setCell _ ⟨s, 1, none⟩ _ k hks).trans ((Below.heap_setCell _ ⟨s, 0, none⟩ _ k hks).trans (HK6.out k h2))
          · have hs4 : s < w4.heap.size := by have := Hs3.out; omega
            exact ((OwnK.set (OwnK.set HO6.out hs4) hs4).later (Below.refl _ _).drew).mono HB4.out.size
        clear hsw
        go_region
        all_goals
          go_wp2
          refine bodyPost_ret (v := .tuple #[.pointer (some ⟨p, 0, none⟩), .agg #[.int .i64 (n : Int), .slice a5 m5 c5]]) (results_tg rfl _ _ s (by rfl) (by rfl) HE.out.2) rfl ?_
          exact HE.out.1
end Go.Proofs.Yteiddebjbiadbaa
