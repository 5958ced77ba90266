/- signal: withoutEffect, next. -/
import Derived.Test.YtemmeopaihmlcaaDoorSigI
namespace Go.Proofs.YtemmeopaihmlcaaDoor
open Go.RowKit
attribute [local go_sem ↓] Go.wp_at_zero Go.wp_at_succ

def withoutB (r : RecT) (n : Int) : Bool := hasB r.i n || ((n == 4) && (r.h4 == 0))
def takesB (r : RecT) (n : Int) : Bool := hasB r.p n && !hasB r.b n && !withoutB r n
/-- The first signal from s on, of f many, that is taken. -/
def nextFrom (r : RecT) : Nat → Nat → Int
  | _, 0 => 0
  | s, f + 1 => if takesB r s = true then s else nextFrom r (s + 1) f
def nextB (r : RecT) : Int := if takesB r 3 = true then 3 else nextFrom r 1 7

set_option maxRecDepth 100000 in
set_option maxHeartbeats 1000000 in
theorem withoutEffect_any (p bl i h0 h1 h2 h3 h4 h5 h6 h7 : Int) (n : Int) (hn : 0 ≤ n ∧ n < 8) (w : World) : Calls Tryd.prog 38 #[.agg #[.int .i64 p, .int .i64 bl, .int .i64 i, .int .i64 h0, .int .i64 h1, .int .i64 h2, .int .i64 h3, .int .i64 h4, .int .i64 h5, .int .i64 h6, .int .i64 h7], .int .i64 n] w fun r w' => r = .returned (.bool (withoutB ⟨p, bl, i, h0, h1, h2, h3, h4, h5, h6, h7⟩ n)) ∧ Below w.heap.size w w' := by
  have Ha : Hid (∀ o, Below w.heap.size w (w.alloc o)) := fun o => (Below.refl _ _).alloc (Nat.le_refl _) _
  go_enter Tryd.func38, Tryd.ntmps38
  go_wp2_with fail
  cases hv : hasB i n with
  | true =>
    have he : Hid (withoutB ⟨p, bl, i, h0, h1, h2, h3, h4, h5, h6, h7⟩ n = true) := by show _ = _; simp [withoutB, hv]
    refine (setHas_is i n _ hv hn _).mono ?_
    rintro r w1 ⟨rfl, rfl⟩
    go_wp2
    go_ret
    rw [he.out]
    exact ⟨rfl, Ha.out _⟩
  | false =>
    have he : Hid (withoutB ⟨p, bl, i, h0, h1, h2, h3, h4, h5, h6, h7⟩ n = ((n == 4) && (h4 == 0))) := by show _ = _; simp [withoutB, hv]
    refine (setHas_is i n _ hv hn _).mono ?_
    rintro r w1 ⟨rfl, rfl⟩
    cases hn4 : (n == 4) with
    | true =>
      go_wp2
      go_ret
      rw [he.out]
      refine ⟨?_, Ha.out _⟩
      rw [hn4, Bool.true_and]
      rfl
    | false =>
      go_wp2
      go_ret
      rw [he.out]
      refine ⟨?_, Ha.out _⟩
      rw [hn4, Bool.false_and]
      rfl
theorem withoutEffect_is (p bl i h0 h1 h2 h3 h4 h5 h6 h7 : Int) (n : Int) (hn : 0 ≤ n ∧ n < 8) (v : Bool) (h : withoutB ⟨p, bl, i, h0, h1, h2, h3, h4, h5, h6, h7⟩ n = v) (w : World) : Calls Tryd.prog 38 #[.agg #[.int .i64 p, .int .i64 bl, .int .i64 i, .int .i64 h0, .int .i64 h1, .int .i64 h2, .int .i64 h3, .int .i64 h4, .int .i64 h5, .int .i64 h6, .int .i64 h7], .int .i64 n] w fun r w' => r = .returned (.bool v) ∧ Below w.heap.size w w' := by
  subst h; exact withoutEffect_any p bl i h0 h1 h2 h3 h4 h5 h6 h7 n hn w

set_option maxRecDepth 100000 in
set_option maxHeartbeats 1000000 in
theorem takes_any (X : Nat) (p bl i h0 h1 h2 h3 h4 h5 h6 h7 : Int) (n : Int) (hn : 0 ≤ n ∧ n < 8) (w : World) (hX : w.heap[X]? = some (.cells (rCells ⟨p, bl, i, h0, h1, h2, h3, h4, h5, h6, h7⟩) 35 (0, 0))) : Calls Tryd.prog 100 #[.int .i64 n, .pointer (some ⟨X, 0, none⟩)] w fun r w' => r = .returned (.bool (takesB ⟨p, bl, i, h0, h1, h2, h3, h4, h5, h6, h7⟩ n)) ∧ Below w.heap.size w w' := by
  obtain ⟨c0, c1, c2, c3, c4, c5, c6, c7, c8, c9, c10⟩ := at11 hX
  dsimp only at c0 c1 c2 c3 c4 c5 c6 c7 c8 c9 c10
  clear hX
  go_enter Tryd.func100, Tryd.ntmps100
  go_wp2_with fail
  cases hv : hasB p n with
  | false =>
    have he : Hid (takesB ⟨p, bl, i, h0, h1, h2, h3, h4, h5, h6, h7⟩ n = false) := by show _ = _; simp [takesB, hv]
    refine (setHas_is p n _ hv hn _).mono ?_
    rintro r w1 ⟨rfl, rfl⟩
    go_wp2
    go_ret
    rw [he.out]
    exact ⟨rfl, Below.refl _ _⟩
  | true =>
    refine (setHas_is p n _ hv hn _).mono ?_
    rintro r w1 ⟨rfl, rfl⟩
    go_wp2_with fail
    cases hv2 : hasB bl n with
    | true =>
      have he : Hid (takesB ⟨p, bl, i, h0, h1, h2, h3, h4, h5, h6, h7⟩ n = false) := by show _ = _; simp [takesB, hv2]
      refine (setHas_is bl n _ hv2 hn _).mono ?_
      rintro r w1 ⟨rfl, rfl⟩
      go_wp2
      go_ret
      rw [he.out]
      exact ⟨rfl, Below.refl _ _⟩
    | false =>
      refine (setHas_is bl n _ hv2 hn _).mono ?_
      rintro r w1 ⟨rfl, rfl⟩
      have he : Hid (takesB ⟨p, bl, i, h0, h1, h2, h3, h4, h5, h6, h7⟩ n = !withoutB ⟨p, bl, i, h0, h1, h2, h3, h4, h5, h6, h7⟩ n) := by show _ = _; simp [takesB, hv, hv2]
      go_wp2_with fail
      refine (withoutEffect_any p bl i h0 h1 h2 h3 h4 h5 h6 h7 n hn _).mono ?_
      rintro r w1 ⟨rfl, hb⟩
      generalize withoutB ⟨p, bl, i, h0, h1, h2, h3, h4, h5, h6, h7⟩ n = v at *
      clear hv hv2
      go_wp2
      go_ret
      rw [he.out]
      exact ⟨rfl, hb⟩
theorem takes_is (X : Nat) (p bl i h0 h1 h2 h3 h4 h5 h6 h7 : Int) (n : Int) (hn : 0 ≤ n ∧ n < 8) (v : Bool) (h : takesB ⟨p, bl, i, h0, h1, h2, h3, h4, h5, h6, h7⟩ n = v) (w : World) (hX : w.heap[X]? = some (.cells (rCells ⟨p, bl, i, h0, h1, h2, h3, h4, h5, h6, h7⟩) 35 (0, 0))) : Calls Tryd.prog 100 #[.int .i64 n, .pointer (some ⟨X, 0, none⟩)] w fun r w' => r = .returned (.bool v) ∧ Below w.heap.size w w' := by
  subst h; exact takes_any X p bl i h0 h1 h2 h3 h4 h5 h6 h7 n hn w hX

set_option maxRecDepth 100000 in
set_option maxHeartbeats 1000000 in
theorem next_any (p bl i h0 h1 h2 h3 h4 h5 h6 h7 : Int) (w : World) : Calls Tryd.prog 60 #[.agg #[.int .i64 p, .int .i64 bl, .int .i64 i, .int .i64 h0, .int .i64 h1, .int .i64 h2, .int .i64 h3, .int .i64 h4, .int .i64 h5, .int .i64 h6, .int .i64 h7]] w fun r w' => r = .returned (.int .i64 (nextB ⟨p, bl, i, h0, h1, h2, h3, h4, h5, h6, h7⟩)) ∧ Below w.heap.size w w' := by
  have Ha : Hid (∀ o, Below w.heap.size w (w.alloc o)) := fun o => (Below.refl _ _).alloc (Nat.le_refl _) _
  have HX : Hid (∀ o, (w.alloc o).heap[w.heap.size]? = some o) := fun o => heap_alloc_new w o
  go_enter Tryd.func60, Tryd.ntmps60
  go_wp2_with fail
  cases hv : takesB ⟨p, bl, i, h0, h1, h2, h3, h4, h5, h6, h7⟩ 3 with
  | true =>
    have he : Hid (nextB ⟨p, bl, i, h0, h1, h2, h3, h4, h5, h6, h7⟩ = 3) := if_pos hv
    refine (takes_is w.heap.size p bl i h0 h1 h2 h3 h4 h5 h6 h7 3 (by omega) _ hv _ (HX.out _)).mono ?_
    rintro r w1 ⟨rfl, hb⟩
    have HB1 : Hid (Below w.heap.size w w1) := (Ha.out _).trans (hb.mono (by simp))
    clear hb
    go_wp2
    go_ret
    rw [he.out]
    exact ⟨rfl, HB1.out⟩
  | false =>
    have he : Hid (nextB ⟨p, bl, i, h0, h1, h2, h3, h4, h5, h6, h7⟩ = nextFrom ⟨p, bl, i, h0, h1, h2, h3, h4, h5, h6, h7⟩ 1 7) := if_neg (by rw [hv]; simp)
    refine (takes_is w.heap.size p bl i h0 h1 h2 h3 h4 h5 h6 h7 3 (by omega) _ hv _ (HX.out _)).mono ?_
    rintro r w1 ⟨rfl, hb⟩
    have HB1 : Hid (Below w.heap.size w w1) := (Ha.out _).trans (hb.mono (by simp))
    have HX1 : Hid (w1.heap[w.heap.size]? = some (.cells (rCells ⟨p, bl, i, h0, h1, h2, h3, h4, h5, h6, h7⟩) 35 (0, 0))) := (hb.block _ (by simp)).trans (HX.out _)
    clear hb hv HX Ha
    go_wp2
    go_loopw [4] (fun s wr => ∃ k : Nat, k ≤ 7 ∧ s = .int .i64 ((k : Int) + 1) ∧ Hid (nextFrom ⟨p, bl, i, h0, h1, h2, h3, h4, h5, h6, h7⟩ 1 7 = nextFrom ⟨p, bl, i, h0, h1, h2, h3, h4, h5, h6, h7⟩ (k + 1) (7 - k)) ∧ Hid (Below w.heap.size w wr) ∧ Hid (wr.heap[w.heap.size]? = some (.cells (rCells ⟨p, bl, i, h0, h1, h2, h3, h4, h5, h6, h7⟩) 35 (0, 0)))) (fun s _ => 8 - (intOf s).toNat)
    case atStart => exact ⟨0, by omega, rfl, rfl, HB1.out, HX1.out⟩
    case round =>
      obtain ⟨k, hk, rfl, Hd, HB, HXr⟩ := hrel
      clear HB1 HX1
      by_cases h8 : k < 7
      · have Hs : Hid (nextFrom ⟨p, bl, i, h0, h1, h2, h3, h4, h5, h6, h7⟩ (k + 1) (7 - k) = if takesB ⟨p, bl, i, h0, h1, h2, h3, h4, h5, h6, h7⟩ ((k : Int) + 1) = true then (k : Int) + 1 else nextFrom ⟨p, bl, i, h0, h1, h2, h3, h4, h5, h6, h7⟩ (k + 1 + 1) (7 - (k + 1))) := by
          show _ = _
          obtain ⟨f, hf⟩ : ∃ f, 7 - k = f + 1 := ⟨7 - k - 1, by omega⟩
          have hf' : 7 - (k + 1) = f := by omega
          rw [hf, hf', nextFrom]
          rfl
        go_wp2_with fail
        cases hv : takesB ⟨p, bl, i, h0, h1, h2, h3, h4, h5, h6, h7⟩ ((k : Int) + 1) with
        | true =>
          have he' : Hid (nextB ⟨p, bl, i, h0, h1, h2, h3, h4, h5, h6, h7⟩ = (k : Int) + 1) := by show _ = _; rw [he.out, Hd.out, Hs.out, if_pos hv]
          refine (takes_is w.heap.size p bl i h0 h1 h2 h3 h4 h5 h6 h7 _ (by omega) _ hv _ HXr.out).mono ?_
          rintro r w2 ⟨rfl, hb⟩
          have HB2 : Hid (Below w.heap.size w w2) := HB.out.trans (hb.mono HB.out.size)
          clear hb
          go_wp2
          go_ret
          rw [he'.out]
          exact ⟨rfl, HB2.out⟩
        | false =>
          have Hd' : Hid (nextFrom ⟨p, bl, i, h0, h1, h2, h3, h4, h5, h6, h7⟩ 1 7 = nextFrom ⟨p, bl, i, h0, h1, h2, h3, h4, h5, h6, h7⟩ (k + 1 + 1) (7 - (k + 1))) := by show _ = _; rw [Hd.out, Hs.out, if_neg (by rw [hv]; simp)]
          refine (takes_is w.heap.size p bl i h0 h1 h2 h3 h4 h5 h6 h7 _ (by omega) _ hv _ HXr.out).mono ?_
          rintro r w2 ⟨rfl, hb⟩
          have HB2 : Hid (Below w.heap.size w w2) := HB.out.trans (hb.mono HB.out.size)
          have HX2 := Lib.hid ((hb.block _ (lt_of_heap HXr.out)).trans HXr.out)
          clear hb hv
          go_wp2
          go_roundw
          case rel => exact ⟨k + 1, by omega, by go_num, Hd'.out, HB2.out, HX2.out⟩
          case measure => simp [intOf]; omega
      · obtain rfl : k = 7 := by omega
        have he' : Hid (nextB ⟨p, bl, i, h0, h1, h2, h3, h4, h5, h6, h7⟩ = 0) := he.out.trans Hd.out
        go_wp2
        go_ret
        rw [he'.out]
        exact ⟨rfl, HB.out⟩
theorem next_is (p bl i h0 h1 h2 h3 h4 h5 h6 h7 : Int) (v : Int) (h : nextB ⟨p, bl, i, h0, h1, h2, h3, h4, h5, h6, h7⟩ = v) (w : World) : Calls Tryd.prog 60 #[.agg #[.int .i64 p, .int .i64 bl, .int .i64 i, .int .i64 h0, .int .i64 h1, .int .i64 h2, .int .i64 h3, .int .i64 h4, .int .i64 h5, .int .i64 h6, .int .i64 h7]] w fun r w' => r = .returned (.int .i64 v) ∧ Below w.heap.size w w' := by
  subst h; exact next_any p bl i h0 h1 h2 h3 h4 h5 h6 h7 w

end Go.Proofs.YtemmeopaihmlcaaDoor
