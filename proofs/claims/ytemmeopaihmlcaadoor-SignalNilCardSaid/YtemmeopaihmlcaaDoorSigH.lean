/- lineage: Parent; signal: isNear, isSignal, check. -/
import Derived.Test.YtemmeopaihmlcaaDoorSigG
namespace Go.Proofs.YtemmeopaihmlcaaDoor
open Go.RowKit
attribute [local go_sem ↓] Go.wp_at_zero Go.wp_at_succ

/-- Where the last dot among the first n bytes lies, or -1. -/
def lastDot (l : List UInt8) : Nat → Int
  | 0 => -1
  | n + 1 => if (l.getD n 0).toNat = 46 then n else lastDot l n
theorem lastDot_ways (l : List UInt8) (n : Nat) : lastDot l n = -1 ∨ ∃ k : Nat, k < n ∧ lastDot l n = k := by
  induction n with
  | zero => exact .inl rfl
  | succ n ih =>
    unfold lastDot
    split
    · exact .inr ⟨n, by omega, rfl⟩
    · rcases ih with h | ⟨k, hk, h⟩
      · exact .inl h
      · exact .inr ⟨k, by omega, h⟩
def parentB (s : ByteArray) : ByteArray × Bool := if s.size = 0 ∨ validB s = false then (⟨#[]⟩, false) else (s.extract 0 (lastDot s.data.toList s.size).toNat, true)
def nearB (a b : ByteArray) : Bool := decide (a = b) || ((parentB b).2 && decide ((parentB b).1 = a)) || ((parentB a).2 && decide ((parentB a).1 = b))
def sigB (n : Int) : Bool := decide (1 ≤ n) && decide (n < 8)

set_option maxRecDepth 100000 in
set_option maxHeartbeats 1000000 in
theorem lastIndexString_any (s : ByteArray) (w : World) (hs : s.size ≤ 70368744177664) : Calls Tryd.prog 71 #[.string s, .int .u8 46] w fun r w' => r = .returned (.int .i64 (lastDot s.data.toList s.size)) ∧ w = w' := by
  go_enter Tryd.func71, Tryd.ntmps71
  go_wp2
  go_loop [5] (fun i => ∃ k : Nat, k ≤ s.size ∧ i = .int .i64 ((k : Int) - 1) ∧ Hid (lastDot s.data.toList s.size = lastDot s.data.toList k)) (fun i => (intOf i + 1).toNat)
  case atStart => exact ⟨s.size, by omega, by go_num, rfl⟩
  case round =>
    obtain ⟨k, hk, rfl, Hd⟩ := hrel
    cases k with
    | zero =>
      have he : Hid (lastDot s.data.toList s.size = -1) := Hd.out
      go_wp2
      go_ret
      rw [he.out]
      exact ⟨rfl, rfl⟩
    | succ k =>
      have hk1 : k < s.size := by omega
      have hgb := at_byte s k hk1
      have hnum : ((k + 1 : Nat) : Int) - 1 = k := by omega
      rw [hnum]
      clear hnum
      by_cases hd : (s.data.toList.getD k 0).toNat = 46
      · have he : Hid (lastDot s.data.toList s.size = k) := Hd.out.trans (if_pos hd)
        have hd' : (((s[k]'hk1).toNat : Int) == 46) = true := beq_iff_eq.2 (by rw [hgb]; omega)
        clear hgb hd
        go_wp2
        go_ret
        rw [he.out]
        exact ⟨rfl, rfl⟩
      · have Hd' : Hid (lastDot s.data.toList s.size = lastDot s.data.toList k) := Hd.out.trans (if_neg hd)
        have hd' : (((s[k]'hk1).toNat : Int) == 46) = false := beq_eq_false_iff_ne.2 (by rw [hgb]; omega)
        clear hgb hd
        go_wp2
        go_round
        case rel => exact ⟨k, by omega, by go_num, Hd'.out⟩
        case measure => simp [intOf]
set_option maxRecDepth 100000 in
set_option maxHeartbeats 1000000 in
theorem lastIndexByte_any (s : ByteArray) (w : World) (hs : s.size ≤ 70368744177664) : Calls Tryd.prog 32 #[.string s, .int .u8 46] w fun r w' => r = .returned (.int .i64 (lastDot s.data.toList s.size)) ∧ w = w' := by
  go_enter Tryd.func32, Tryd.ntmps32
  go_wp2_with fail
  refine (lastIndexString_any s _ hs).mono ?_
  rintro e w1 ⟨rfl, rfl⟩
  go_wp2
  go_ret
  exact ⟨rfl, rfl⟩
theorem lastIndexByte_is (s : ByteArray) (v : Int) (h : lastDot s.data.toList s.size = v) (w : World) (hs : s.size ≤ 70368744177664) : Calls Tryd.prog 32 #[.string s, .int .u8 46] w fun r w' => r = .returned (.int .i64 v) ∧ w = w' := by
  subst h; exact lastIndexByte_any s w hs

set_option maxRecDepth 100000 in
set_option maxHeartbeats 1000000 in
theorem parent_any (s : ByteArray) (w : World) (hs : s.size ≤ 70368744177664) : Calls Tryd.prog 12 #[.string s] w fun r w' => r = .returned (.tuple #[.string (parentB s).1, .bool (parentB s).2]) ∧ Below w.heap.size w w' := by
  have hte := toList_empty s
  by_cases h0 : s.size = 0
  · have he : Hid (parentB s = (⟨#[]⟩, false)) := if_pos (.inl h0)
    have hte' : s.toList.isEmpty = true := by simpa [h0] using hte
    clear hte
    go_enter Tryd.func12, Tryd.ntmps12
    go_wp2
    go_ret2
    rw [he.out]
    exact ⟨rfl, Below.refl _ _⟩
  have hte' : s.toList.isEmpty = false := by simpa [h0] using hte
  clear hte
  go_enter Tryd.func12, Tryd.ntmps12
  go_wp2_with fail
  cases hv : validB s with
  | false =>
    have he : Hid (parentB s = (⟨#[]⟩, false)) := if_pos (.inr hv)
    refine (valid_is s _ hs hv _).mono ?_
    rintro e w1 ⟨rfl, hb⟩
    go_wp2
    go_ret2
    rw [he.out]
    exact ⟨rfl, hb⟩
  | true =>
    have he : Hid (parentB s = (s.extract 0 (lastDot s.data.toList s.size).toNat, true)) := if_neg (by rw [hv]; simp [h0])
    refine (valid_is s _ hs hv _).mono ?_
    rintro e w1 ⟨rfl, hb⟩
    go_wp2_with fail
    rcases lastDot_ways s.data.toList s.size with h | ⟨k, hk, h⟩
    · have he' : Hid (parentB s = (ByteArray.empty, true)) := by
        show _ = _
        rw [he.out, h]
        simp
      refine (lastIndexByte_is s _ h _ hs).mono ?_
      rintro e w2 ⟨rfl, rfl⟩
      go_wp2
      go_ret2
      rw [he'.out]
      exact ⟨rfl, hb⟩
    · refine (lastIndexByte_is s _ h _ hs).mono ?_
      rintro e w2 ⟨rfl, rfl⟩
      by_cases hk0 : 0 < k
      · have he' : Hid (parentB s = (s.extract 0 k, true)) := by
          show _ = _
          rw [he.out, h]
          simp
        have Hk := Lib.hid h; clear h
        go_wp2
        go_ret2
        rw [he'.out]
        exact ⟨rfl, hb⟩
      · have he' : Hid (parentB s = (ByteArray.empty, true)) := by
          show _ = _
          rw [he.out, h]
          obtain rfl : k = 0 := by omega
          simp
        have Hk := Lib.hid h; clear h
        go_wp2
        go_ret2
        rw [he'.out]
        exact ⟨rfl, hb⟩
theorem parent_is (s : ByteArray) (p : ByteArray) (v : Bool) (h : parentB s = (p, v)) (w : World) (hs : s.size ≤ 70368744177664) : Calls Tryd.prog 12 #[.string s] w fun r w' => r = .returned (.tuple #[.string p, .bool v]) ∧ Below w.heap.size w w' := by
  have := parent_any s w hs
  rw [h] at this
  exact this

set_option maxRecDepth 100000 in
set_option maxHeartbeats 1000000 in
theorem isNear_any (a b : ByteArray) (w : World) (ha : a.size ≤ 70368744177664) (hb : b.size ≤ 70368744177664) : Calls Tryd.prog 36 #[.string a, .string b] w fun r w' => r = .returned (.bool (nearB a b)) ∧ Below w.heap.size w w' := by
  go_enter Tryd.func36, Tryd.ntmps36
  by_cases hab : a = b
  · have he : Hid (nearB a b = true) := by show _ = _; simp [nearB, hab]
    have hab' : (a.toList == b.toList) = true := by rw [str_beq]; simp [hab]
    clear hab
    go_wp2
    go_ret
    rw [he.out]
    exact ⟨rfl, Below.refl _ _⟩
  · have hab' : (a.toList == b.toList) = false := by rw [str_beq]; simp [hab]
    have Hab := Lib.hid hab; clear hab
    obtain ⟨p1, v1, hp1⟩ : ∃ p v, parentB b = (p, v) := ⟨_, _, rfl⟩
    obtain ⟨p2, v2, hp2⟩ : ∃ p v, parentB a = (p, v) := ⟨_, _, rfl⟩
    have he : Hid (nearB a b = ((v1 && decide (p1 = a)) || (v2 && decide (p2 = b)))) := by show _ = _; unfold nearB; rw [hp1, hp2]; simp [Hab.out]
    go_wp2_with fail
    refine (parent_is b p1 v1 hp1 _ hb).mono ?_
    rintro e w1 ⟨rfl, hb1⟩
    have HB1 := Lib.hid hb1; clear hb1
    have Hp2 := Lib.hid hp2
    clear hp1 hp2
    cases v1 with
    | false =>
      go_wp2_with fail
      refine (parent_is a p2 v2 Hp2.out _ ha).mono ?_
      rintro e w2 ⟨rfl, hb2⟩
      have HB2 : Hid (Below w.heap.size w w2) := HB1.out.trans (hb2.mono HB1.out.size)
      clear hb2
      cases v2 with
      | false =>
        go_wp2
        go_ret
        rw [he.out]
        exact ⟨rfl, HB2.out⟩
      | true =>
        by_cases h2 : p2 = b
        · have h2' : (p2.toList == b.toList) = true := by rw [str_beq]; simp [h2]
          have he' : Hid (nearB a b = true) := by show _ = _; rw [he.out]; simp [h2]
          clear h2
          go_wp2
          go_ret
          rw [he'.out]
          exact ⟨rfl, HB2.out⟩
        · have h2' : (p2.toList == b.toList) = false := by rw [str_beq]; simp [h2]
          have he' : Hid (nearB a b = false) := by show _ = _; rw [he.out]; simp [h2]
          clear h2
          go_wp2
          go_ret
          rw [he'.out]
          exact ⟨rfl, HB2.out⟩
    | true =>
      by_cases h1 : p1 = a
      · have h1' : (p1.toList == a.toList) = true := by rw [str_beq]; simp [h1]
        have he' : Hid (nearB a b = true) := by show _ = _; rw [he.out]; simp [h1]
        clear h1
        go_wp2
        go_ret
        rw [he'.out]
        exact ⟨rfl, HB1.out⟩
      · have h1' : (p1.toList == a.toList) = false := by rw [str_beq]; simp [h1]
        have he1 : Hid (nearB a b = (v2 && decide (p2 = b))) := by show _ = _; rw [he.out]; simp [h1]
        clear h1
        go_wp2_with fail
        refine (parent_is a p2 v2 Hp2.out _ ha).mono ?_
        rintro e w2 ⟨rfl, hb2⟩
        have HB2 : Hid (Below w.heap.size w w2) := HB1.out.trans (hb2.mono HB1.out.size)
        clear hb2
        cases v2 with
        | false =>
          go_wp2
          go_ret
          rw [he1.out]
          exact ⟨rfl, HB2.out⟩
        | true =>
          by_cases h2 : p2 = b
          · have h2' : (p2.toList == b.toList) = true := by rw [str_beq]; simp [h2]
            have he' : Hid (nearB a b = true) := by show _ = _; rw [he1.out]; simp [h2]
            clear h2
            go_wp2
            go_ret
            rw [he'.out]
            exact ⟨rfl, HB2.out⟩
          · have h2' : (p2.toList == b.toList) = false := by rw [str_beq]; simp [h2]
            have he' : Hid (nearB a b = false) := by show _ = _; rw [he1.out]; simp [h2]
            clear h2
            go_wp2
            go_ret
            rw [he'.out]
            exact ⟨rfl, HB2.out⟩
theorem isNear_is (a b : ByteArray) (v : Bool) (h : nearB a b = v) (w : World) (ha : a.size ≤ 70368744177664) (hb : b.size ≤ 70368744177664) : Calls Tryd.prog 36 #[.string a, .string b] w fun r w' => r = .returned (.bool v) ∧ Below w.heap.size w w' := by
  subst h; exact isNear_any a b w ha hb
set_option maxHeartbeats 400000 in
theorem isSignal_any (n : Int) (w : World) : Calls Tryd.prog 35 #[.int .i64 n] w fun r w' => r = .returned (.bool (sigB n)) ∧ w = w' := by
  by_cases h1 : 1 ≤ n
  · go_enter Tryd.func35, Tryd.ntmps35
    go_wp2
    go_ret
    exact ⟨by simp [sigB, h1], rfl⟩
  · have h3 : sigB n = false := by simp [sigB, h1]
    go_enter Tryd.func35, Tryd.ntmps35
    go_wp2
    go_ret
    exact ⟨rfl, rfl⟩
theorem isSignal_is (n : Int) (v : Bool) (h : sigB n = v) (w : World) : Calls Tryd.prog 35 #[.int .i64 n] w fun r w' => r = .returned (.bool v) ∧ w = w' := by
  subst h; exact isSignal_any n w

def checkN1 (a : ByteArray) : Nat := if validB a = false then 12 else 0
def checkN2 (a b : ByteArray) : Nat := if validB a = false ∨ validB b = false then 12 else 0
set_option maxRecDepth 100000 in
set_option maxHeartbeats 1000000 in
/-- check, with the names of a slice. -/
theorem sCheck_any (v X n c : Nat) (f : Nat → ByteArray) (q : Nat) (w : World) (hc : ∀ k, k < n → w.cell? ⟨X, k, none⟩ = some (.string (f k))) (hf : ∀ k, k < n → (f k).size ≤ 70368744177664) (hn : n ≤ 100) (hq : (q = 12 ∧ ∃ k, k < n ∧ validB (f k) = false) ∨ (q = 0 ∧ ∀ k, k < n → validB (f k) = true)) :
    Calls Tryd.prog 34 #[.pointer (some ⟨v, 0, none⟩), .slice (some ⟨X, 0, none⟩) n c] w fun r w' => r = .returned (.int .i64 q) ∧ Below w.heap.size w w' := by
  have Hc := Lib.hid hc; clear hc
  have Hf := Lib.hid hf; clear hf
  have Hq := Lib.hid hq; clear hq
  go_enter Tryd.func34, Tryd.ntmps34
  go_wp2
  go_loopw [11] (fun i wr => ∃ k : Nat, k ≤ n ∧ i = .int .i64 k ∧ Hid (∀ j, j < k → validB (f j) = true) ∧ Hid (Below w.heap.size w wr)) (fun i _ => n - (intOf i).toNat)
  case atStart => exact ⟨0, by omega, rfl, fun j hj => by omega, Below.refl _ _⟩
  case round =>
    obtain ⟨k, hk, rfl, Hd, HB⟩ := hrel
    by_cases h4 : k < n
    · have hck : wr.cell? ⟨X, k, none⟩ = some (.string (f k)) := ((bcell HB.out).1 _ _ (World.block_lt_of_cell? w ⟨X, k, none⟩ (Hc.out k h4))).trans (Hc.out k h4)
      have hfk := Hf.out k h4
      have Hk4 := Lib.hid h4
      obtain ⟨x, hx⟩ : ∃ x, f k = x := ⟨_, rfl⟩
      rw [hx] at hck hfk
      have Hx := Lib.hid hx; clear hx
      go_wp2_with fail
      cases hv : validB x with
      | false =>
        have he : Hid (q = 12) := by
          show _ = _
          rcases Hq.out with h | h
          · exact h.1
          · have := h.2 k Hk4.out
            rw [Hx.out, hv] at this
            cases this
        refine (valid_is x _ hfk hv _).mono ?_
        rintro e w1 ⟨rfl, hb1⟩
        have HB1 : Hid (Below w.heap.size w w1) := HB.out.trans (hb1.mono HB.out.size)
        clear hb1
        go_wp2
        go_ret
        rw [he.out]
        exact ⟨rfl, HB1.out⟩
      | true =>
        refine (valid_is x _ hfk hv _).mono ?_
        rintro e w1 ⟨rfl, hb1⟩
        have HB1 : Hid (Below w.heap.size w w1) := HB.out.trans (hb1.mono HB.out.size)
        have Hv := Lib.hid hv
        clear hb1 hv
        go_wp2
        go_roundw
        case rel =>
          refine ⟨k + 1, by omega, by go_num, fun j hj => ?_, HB1.out⟩
          by_cases hjk : j = k
          · subst hjk; rw [Hx.out]; exact Hv.out
          · exact Hd.out j (by omega)
        case measure => simp [intOf]; omega
    · have he : Hid (q = 0) := by
        show _ = _
        rcases Hq.out with h | h
        · obtain ⟨-, j, hj, hb⟩ := h
          have := Hd.out j (by omega)
          rw [hb] at this
          cases this
        · exact h.1
      go_wp2
      go_ret
      rw [he.out]
      exact ⟨rfl, HB.out⟩

end Go.Proofs.YtemmeopaihmlcaaDoor
