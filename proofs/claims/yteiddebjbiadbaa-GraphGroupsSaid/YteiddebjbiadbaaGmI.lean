/- slices.BinarySearch at nodes; graph: Has. -/
import Derived.Test.YteiddebjbiadbaaGmL
import Derived.Test.YteiddebjbiadbaaGmS
namespace Go.Proofs.Yteiddebjbiadbaa
open Go.RowKit Gr
attribute [local go_sem ↓] Go.wp_at_zero Go.wp_at_succ

theorem less_int_any (x y : Int) (w : World) : Calls Try.prog 68 #[.int .i64 x, .int .i64 y] w fun r w' => r = .returned (.bool (decide (x < y))) ∧ Below w.heap.size w w' := by
  obtain ⟨e, he⟩ : ∃ e, decide (x < y) = e := ⟨_, rfl⟩
  rw [he]
  go_enter Try.func68, Try.ntmps68
  go_wp2_with fail
  refine (isnan_any x w).mono ?_
  rintro r w2 ⟨rfl, hb⟩
  have HB := Lib.hid hb
  clear hb
  cases e with
  | true =>
    have h := of_decide_eq_true he
    go_wp2
    go_ret
    exact ⟨rfl, HB.out⟩
  | false =>
    have h := of_decide_eq_false he
    go_wp2
    go_ret
    exact ⟨rfl, HB.out⟩
theorem isnan2_any (x : Int) (w : World) : Calls Try.prog 69 #[.int .i64 x] w fun r w' => r = .returned (.bool false) ∧ w' = w := by
  go_enter Try.func69, Try.ntmps69
  go_wp2
  go_ret
  exact ⟨by simp, rfl⟩
/-- Where a number is looked for between lo and hi. -/
structure BsAt (l : List Nat) (x : Int) (lo hi : Nat) : Prop where
  le : lo ≤ hi
  top : hi ≤ l.length
  low : ∀ (k y : Nat), k < lo → l[k]? = some y → (y : Int) < x
  up : ∀ (k y : Nat), hi ≤ k → l[k]? = some y → x ≤ (y : Int)
theorem sorted_le {l : List Nat} (hs : l.Pairwise (· < ·)) {i j a b : Nat} (hij : i ≤ j) (ha : l[i]? = some a) (hb : l[j]? = some b) : a ≤ b := by
  obtain ⟨h1, rfl⟩ := List.getElem?_eq_some_iff.1 ha
  obtain ⟨h2, rfl⟩ := List.getElem?_eq_some_iff.1 hb
  rcases Nat.lt_or_eq_of_le hij with q | q
  · exact Nat.le_of_lt (List.pairwise_iff_getElem.1 hs i j h1 h2 q)
  · subst q; exact Nat.le_refl _
set_option maxHeartbeats 1600000 in
theorem bsearch_any {w : World} {v : Value} {l : List Nat} (h : RowK kNat w v l) (hs : l.Pairwise (· < ·)) (hl : l.length ≤ 4096) (x : Int) : Calls Try.prog 53 #[v, .int .i64 x] w fun r w' => ∃ i : Nat, r = .returned (.tuple #[.int .i64 (i : Int), .bool (decide (x ∈ ints l))]) ∧ Below w.heap.size w w' := by
  obtain ⟨av, cv, rfl, -⟩ := h.form
  have H := Lib.hid h
  have Hs := Lib.hid hs
  clear h hs
  go_enter Try.func53, Try.ntmps53
  go_wp2
  go_loopg [7, 8] l.length (fun gk a b wr => ∃ lo hi : Nat, a = .int .i64 (lo : Int) ∧ b = .int .i64 (hi : Int) ∧ Hid (BsAt l x lo hi) ∧ Hid (hi ≤ lo + gk) ∧ Hid (Below w.heap.size w wr))
  case atStart => exact ⟨0, l.length, rfl, rfl, ⟨Nat.zero_le _, Nat.le_refl _, fun k y hk => absurd hk (Nat.not_lt_zero _), fun k y hk hy => by rw [List.getElem?_eq_none hk] at hy; cases hy⟩, by show _ ≤ _; omega, Below.refl _ _⟩
  case round =>
    obtain ⟨lo, hi, rfl, rfl, HA, HG, HB⟩ := hrel
    have hle := HA.out.le
    have hhl := HA.out.top
    by_cases hlt : lo < hi
    · have hii : (lo : Int) < (hi : Int) := by omega
      have hsum : (lo : Int) + (hi : Int) ≤ 9000 := by omega
      obtain ⟨m, hm⟩ : ∃ m, (lo + hi) / 2 = m := ⟨_, rfl⟩
      have hmi : ((lo : Int) + (hi : Int)) / 2 = (m : Int) := by omega
      have hml : m < l.length := by omega
      obtain ⟨y, hy⟩ : ∃ y, l[m]? = some y := ⟨_, List.getElem?_eq_getElem hml⟩
      obtain ⟨g, off, rfl, hca⟩ := (H.out.later HB.out).at_ hy
      have d1 := hca 0 _ rfl
      simp only [kNat, Nat.mul_one, Nat.add_zero] at d1
      have hmli : (m : Int) < (l.length : Int) := by omega
      have hms : m ≤ 5000 := by omega
      have HC := Lib.hid (less_int_any (y : Int) x wr)
      have Hy := Lib.hid hy
      have Hlt := Lib.hid hlt
      have Hm := Lib.hid hm
      clear hca hy hm hml hlt
      go_upto_region 5 with fail
      go_wp2_with fail
      refine HC.out.mono ?_
      rintro r w2 ⟨rfl, hb2⟩
      have HB2 := Lib.hid (HB.out.trans (hb2.mono HB.out.size))
      clear hb2 HC HB d1
      by_cases hq : (y : Int) < x
      · rw [decide_eq_true hq]
        have HA2 : Hid (BsAt l x (m + 1) hi) := ⟨by have := Hm.out; have := Hlt.out; omega, HA.out.top, fun k z hk hz => by
          have := sorted_le Hs.out (show k ≤ m by omega) hz Hy.out
          omega, HA.out.up⟩
        clear hq
        go_wp2
        go_roundg (gk - 1)
        case measure => have := HG.out; have := Hlt.out; omega
        case rel => exact ⟨m + 1, hi, by go_num, rfl, HA2, by have := HG.out; have := Hlt.out; have := Hm.out; show _ ≤ _; omega, HB2⟩
      · rw [decide_eq_false hq]
        have HA2 : Hid (BsAt l x lo m) := ⟨by have := Hm.out; have := Hlt.out; omega, by have := HA.out.top; have := Hm.out; have := Hlt.out; omega, HA.out.low, fun k z hk hz => by
          have := sorted_le Hs.out hk Hy.out hz
          omega⟩
        clear hq
        go_wp2
        go_roundg (gk - 1)
        case measure => have := HG.out; have := Hlt.out; omega
        case rel => exact ⟨lo, m, rfl, rfl, HA2, by have := HG.out; have := Hlt.out; have := Hm.out; show _ ≤ _; omega, HB2⟩
    · have hii : ¬ (lo : Int) < (hi : Int) := by omega
      obtain rfl : lo = hi := by omega
      have key : ∀ y, l[lo]? = some y → (x ∈ ints l ↔ (y : Int) = x) := fun y hy => by
        constructor
        · intro hx
          obtain ⟨z, hz, rfl⟩ := List.mem_map.1 hx
          obtain ⟨k, hk⟩ := List.mem_iff_getElem?.1 hz
          rcases Nat.lt_or_ge k lo with q | q
          · have := HA.out.low k z q hk; omega
          · have h1 := sorted_le Hs.out q hy hk
            have h2 := HA.out.up lo y (Nat.le_refl _) hy
            omega
        · rintro rfl
          exact List.mem_map.2 ⟨y, List.mem_iff_getElem?.2 ⟨lo, hy⟩, rfl⟩
      have none : ¬ lo < l.length → x ∉ ints l := fun hn hx => by
        obtain ⟨z, hz, rfl⟩ := List.mem_map.1 hx
        obtain ⟨k, hk⟩ := List.mem_iff_getElem?.1 hz
        have h1 := (List.getElem?_eq_some_iff.1 hk).1
        have := HA.out.low k z (by omega) hk
        omega
      obtain ⟨e, he⟩ : ∃ e, decide (x ∈ ints l) = e := ⟨_, rfl⟩
      have He := Lib.hid he
      have Hkey := Lib.hid key
      have Hnone := Lib.hid none
      clear key none he
      by_cases hlt2 : lo < l.length
      · obtain ⟨y, hy⟩ : ∃ y, l[lo]? = some y := ⟨_, List.getElem?_eq_getElem hlt2⟩
        obtain ⟨g, off, rfl, hca⟩ := (H.out.later HB.out).at_ hy
        have d1 := hca 0 _ rfl
        simp only [kNat, Nat.mul_one, Nat.add_zero] at d1
        have hlli : (lo : Int) < (l.length : Int) := by omega
        have Hk2 := Lib.hid (Hkey.out y hy)
        have hls : lo ≤ 5000 := by omega
        clear hca hy hlt2 hlt
        by_cases hq : (y : Int) = x
        · have Ht : Hid (decide (x ∈ ints l) = true) := decide_eq_true (Hk2.out.2 hq)
          go_wp2
          refine bodyPost_ret (v := .tuple #[.int .i64 (lo : Int), .bool true]) (by simp [results, Try.results53, go_sem]) rfl ?_
          first | exact ⟨lo, by rw [Ht.out], HB.out⟩ | exact ⟨⟨lo, by rw [Ht.out]⟩, HB.out⟩
        · have Ht : Hid (decide (x ∈ ints l) = false) := decide_eq_false (fun h => hq (Hk2.out.1 h))
          go_wp2_with fail
          refine (isnan2_any _ _).mono ?_
          rintro r w2 ⟨rfl, rfl⟩
          go_wp2
          refine bodyPost_ret (v := .tuple #[.int .i64 (lo : Int), .bool false]) (by simp [results, Try.results53, go_sem, hq]) rfl ?_
          first | exact ⟨lo, by rw [Ht.out], HB.out⟩ | exact ⟨⟨lo, by rw [Ht.out]⟩, HB.out⟩
      · have Ht : Hid (decide (x ∈ ints l) = false) := decide_eq_false (Hnone.out hlt2)
        have hlli : ¬ (lo : Int) < (l.length : Int) := by omega
        clear hlt2
        go_wp2
        refine bodyPost_ret (v := .tuple #[.int .i64 (lo : Int), .bool false]) (by simp [results, Try.results53, go_sem]) rfl ?_
        first | exact ⟨lo, by rw [Ht.out], HB.out⟩ | exact ⟨⟨lo, by rw [Ht.out]⟩, HB.out⟩
theorem hasEdge_any {w : World} {p n : Nat} {A B : Nat → List Nat} (h : GOk w p n A B) (hs : ∀ i, (A i).Pairwise (· < ·)) (x y : Int) : Calls Try.prog 28 #[.pointer (some ⟨p, 0, none⟩), .int .i64 x, .int .i64 y] w fun r w' => r = .returned (.bool (nodeB n x && decide (y ∈ ints (A x.toNat)))) ∧ Below w.heap.size w w' := by
  have H := Lib.hid h
  obtain ⟨hn, ga, gb, c0, c1, hra, hrb⟩ := h.at_
  have Hra := Lib.hid hra
  have Hs := Lib.hid hs
  clear h hra hrb hs
  by_cases hf : nodeB n x = false
  · rw [hf, Bool.false_and]
    go_enter Try.func28, Try.ntmps28
    go_wp2_with fail
    refine (has_any H.out.at_ x).mono ?_
    rintro r w2 ⟨rfl, rfl⟩
    rw [hf]
    go_wp2
    go_ret
    exact ⟨rfl, Below.refl _ _⟩
  have hf1 : nodeB n x = true := by simpa using hf
  have hf2 := nodeB_iff.1 hf1
  obtain ⟨a, rfl⟩ := Int.eq_ofNat_of_zero_le hf2.1
  have Han : Hid (a < n) := by have := hf2.2; show _ < _; omega
  obtain ⟨v, hv1, hv2⟩ := Hra.out a Han.out
  obtain ⟨ra, rc, rfl, -⟩ := hv2.form
  have HC := Lib.hid (bsearch_any hv2 (Hs.out a) (H.out.la a) y)
  have hai : (a : Int) < (n : Int) := hf2.2
  have hta : (a : Int).toNat = a := by simp
  rw [hf1, Bool.true_and, hta]
  obtain ⟨e, he⟩ : ∃ e, decide (y ∈ ints (A a)) = e := ⟨_, rfl⟩
  rw [he] at HC ⊢
  clear hf hf2 hv2 hta he
  go_enter Try.func28, Try.ntmps28
  go_wp2_with fail
  refine (has_any H.out.at_ (a : Int)).mono ?_
  rintro r w2 ⟨rfl, rfl⟩
  rw [hf1]
  go_wp2_with fail
  refine HC.out.mono ?_
  rintro r w2 ⟨i, rfl, hb2⟩
  have HB2 := Lib.hid hb2
  clear hb2 HC
  go_wp2
  go_ret
  exact ⟨rfl, HB2.out⟩
end Go.Proofs.Yteiddebjbiadbaa
