/- lineage: Parent; signal: isNear, isSignal, check. signal: put, add, Make, Get, at the record that a view holds. signal: withoutEffect, next. signal: Send. -/
import Derived.Test.YtpieaakdddgdeaaGreatDoorSigG
namespace Go.Proofs.YtpieaakdddgdeaaGreatDoor
open Go.RowKit
attribute [local go_sem ↓] Go.wp_at_zero Go.wp_at_succ

/-- Where the last dot among the first n bytes lies, or -1. -/
def lastDot (l : List UInt8) : Nat → Int
  | 0 => -1
  | n + 1 => if (l.getD n 0).toNat = 46 then n else lastDot l n
theorem lastDot_ways (l : List UInt8) (n : Nat) : lastDot l n = -1 ∨ ∃ k : Nat, k < n ∧ lastDot l n = k := by
  induction n with
  | zero => exact .inl rfl
  | succ n ih =>
    unfold lastDot
    split
    · exact .inr ⟨n, by omega, rfl⟩
    · rcases ih with h | ⟨k, hk, h⟩
      · exact .inl h
      · exact .inr ⟨k, by omega, h⟩
def parentB (s : ByteArray) : ByteArray × Bool := if s.size = 0 ∨ validB s = false then (⟨#[]⟩, false) else (s.extract 0 (lastDot s.data.toList s.size).toNat, true)
def nearB (a b : ByteArray) : Bool := decide (a = b) || ((parentB b).2 && decide ((parentB b).1 = a)) || ((parentB a).2 && decide ((parentB a).1 = b))
def sigB (n : Int) : Bool := decide (1 ≤ n) && decide (n < 8)

set_option maxRecDepth 100000 in
set_option maxHeartbeats 1000000 in
theorem lastIndexString_any (s : ByteArray) (w : World) (hs : s.size ≤ 70368744177664) : Calls Tryz.prog 181 #[.string s, .int .u8 46] w fun r w' => r = .returned (.int .i64 (lastDot s.data.toList s.size)) ∧ w = w' := by
  go_enter Tryz.func181, Tryz.ntmps181
  go_wp2
  go_loop [5] (fun i => ∃ k : Nat, k ≤ s.size ∧ i = .int .i64 ((k : Int) - 1) ∧ Hid (lastDot s.data.toList s.size = lastDot s.data.toList k)) (fun i => (intOf i + 1).toNat)
  case atStart => exact ⟨s.size, by omega, by go_num, rfl⟩
  case round =>
    obtain ⟨k, hk, rfl, Hd⟩ := hrel
    cases k with
    | zero =>
      have he : Hid (lastDot s.data.toList s.size = -1) := Hd.out
      go_wp2
      go_ret
      rw [he.out]
      exact ⟨rfl, rfl⟩
    | succ k =>
      have hk1 : k < s.size := by omega
      have hgb := at_byte s k hk1
      have hnum : ((k + 1 : Nat) : Int) - 1 = k := by omega
      rw [hnum]
      clear hnum
      by_cases hd : (s.data.toList.getD k 0).toNat = 46
      · have he : Hid (lastDot s.data.toList s.size = k) := Hd.out.trans (if_pos hd)
        have hd' : (((s[k]'hk1).toNat : Int) == 46) = true := beq_iff_eq.2 (by rw [hgb]; omega)
        clear hgb hd
        go_wp2
        go_ret
        rw [he.out]
        exact ⟨rfl, rfl⟩
      · have Hd' : Hid (lastDot s.data.toList s.size = lastDot s.data.toList k) := Hd.out.trans (if_neg hd)
        have hd' : (((s[k]'hk1).toNat : Int) == 46) = false := beq_eq_false_iff_ne.2 (by rw [hgb]; omega)
        clear hgb hd
        go_wp2
        go_round
        case rel => exact ⟨k, by omega, by go_num, Hd'.out⟩
        case measure => simp [intOf]
set_option maxRecDepth 100000 in
set_option maxHeartbeats 1000000 in
theorem lastIndexByte_any (s : ByteArray) (w : World) (hs : s.size ≤ 70368744177664) : Calls Tryz.prog 148 #[.string s, .int .u8 46] w fun r w' => r = .returned (.int .i64 (lastDot s.data.toList s.size)) ∧ w = w' := by
  go_enter Tryz.func148, Tryz.ntmps148
  go_wp2_with fail
  refine (lastIndexString_any s _ hs).mono ?_
  rintro e w1 ⟨rfl, rfl⟩
  go_wp2
  go_ret
  exact ⟨rfl, rfl⟩
theorem lastIndexByte_is (s : ByteArray) (v : Int) (h : lastDot s.data.toList s.size = v) (w : World) (hs : s.size ≤ 70368744177664) : Calls Tryz.prog 148 #[.string s, .int .u8 46] w fun r w' => r = .returned (.int .i64 v) ∧ w = w' := by
  subst h; exact lastIndexByte_any s w hs

set_option maxRecDepth 100000 in
set_option maxHeartbeats 1000000 in
theorem parent_any (s : ByteArray) (w : World) (hs : s.size ≤ 70368744177664) : Calls Tryz.prog 108 #[.string s] w fun r w' => r = .returned (.tuple #[.string (parentB s).1, .bool (parentB s).2]) ∧ Below w.heap.size w w' := by
  have hte := toList_empty s
  by_cases h0 : s.size = 0
  · have he : Hid (parentB s = (⟨#[]⟩, false)) := if_pos (.inl h0)
    have hte' : s.toList.isEmpty = true := by simpa [h0] using hte
    clear hte
    go_enter Tryz.func108, Tryz.ntmps108
    go_wp2
    go_ret2
    rw [he.out]
    exact ⟨rfl, Below.refl _ _⟩
  have hte' : s.toList.isEmpty = false := by simpa [h0] using hte
  clear hte
  go_enter Tryz.func108, Tryz.ntmps108
  go_wp2_with fail
  cases hv : validB s with
  | false =>
    have he : Hid (parentB s = (⟨#[]⟩, false)) := if_pos (.inr hv)
    refine (valid_is s _ hs hv _).mono ?_
    rintro e w1 ⟨rfl, hb⟩
    go_wp2
    go_ret2
    rw [he.out]
    exact ⟨rfl, hb⟩
  | true =>
    have he : Hid (parentB s = (s.extract 0 (lastDot s.data.toList s.size).toNat, true)) := if_neg (by rw [hv]; simp [h0])
    refine (valid_is s _ hs hv _).mono ?_
    rintro e w1 ⟨rfl, hb⟩
    go_wp2_with fail
    rcases lastDot_ways s.data.toList s.size with h | ⟨k, hk, h⟩
    · have he' : Hid (parentB s = (ByteArray.empty, true)) := by
        show _ = _
        rw [he.out, h]
        simp
      refine (lastIndexByte_is s _ h _ hs).mono ?_
      rintro e w2 ⟨rfl, rfl⟩
      go_wp2
      go_ret2
      rw [he'.out]
      exact ⟨rfl, hb⟩
    · refine (lastIndexByte_is s _ h _ hs).mono ?_
      rintro e w2 ⟨rfl, rfl⟩
      by_cases hk0 : 0 < k
      · have he' : Hid (parentB s = (s.extract 0 k, true)) := by
          show _ = _
          rw [he.out, h]
          simp
        have Hk := Lib.hid h; clear h
        go_wp2
        go_ret2
        rw [he'.out]
        exact ⟨rfl, hb⟩
      · have he' : Hid (parentB s = (ByteArray.empty, true)) := by
          show _ = _
          rw [he.out, h]
          obtain rfl : k = 0 := by omega
          simp
        have Hk := Lib.hid h; clear h
        go_wp2
        go_ret2
        rw [he'.out]
        exact ⟨rfl, hb⟩
theorem parent_is (s : ByteArray) (p : ByteArray) (v : Bool) (h : parentB s = (p, v)) (w : World) (hs : s.size ≤ 70368744177664) : Calls Tryz.prog 108 #[.string s] w fun r w' => r = .returned (.tuple #[.string p, .bool v]) ∧ Below w.heap.size w w' := by
  have := parent_any s w hs
  rw [h] at this
  exact this

set_option maxRecDepth 100000 in
set_option maxHeartbeats 1000000 in
theorem isNear_any (a b : ByteArray) (w : World) (ha : a.size ≤ 70368744177664) (hb : b.size ≤ 70368744177664) : Calls Tryz.prog 50 #[.string a, .string b] w fun r w' => r = .returned (.bool (nearB a b)) ∧ Below w.heap.size w w' := by
  go_enter Tryz.func50, Tryz.ntmps50
  by_cases hab : a = b
  · have he : Hid (nearB a b = true) := by show _ = _; simp [nearB, hab]
    have hab' : (a.toList == b.toList) = true := by rw [str_beq]; simp [hab]
    clear hab
    go_wp2
    go_ret
    rw [he.out]
    exact ⟨rfl, Below.refl _ _⟩
  · have hab' : (a.toList == b.toList) = false := by rw [str_beq]; simp [hab]
    have Hab := Lib.hid hab; clear hab
    obtain ⟨p1, v1, hp1⟩ : ∃ p v, parentB b = (p, v) := ⟨_, _, rfl⟩
    obtain ⟨p2, v2, hp2⟩ : ∃ p v, parentB a = (p, v) := ⟨_, _, rfl⟩
    have he : Hid (nearB a b = ((v1 && decide (p1 = a)) || (v2 && decide (p2 = b)))) := by show _ = _; unfold nearB; rw [hp1, hp2]; simp [Hab.out]
    go_wp2_with fail
    refine (parent_is b p1 v1 hp1 _ hb).mono ?_
    rintro e w1 ⟨rfl, hb1⟩
    have HB1 := Lib.hid hb1; clear hb1
    have Hp2 := Lib.hid hp2
    clear hp1 hp2
    cases v1 with
    | false =>
      go_wp2_with fail
      refine (parent_is a p2 v2 Hp2.out _ ha).mono ?_
      rintro e w2 ⟨rfl, hb2⟩
      have HB2 : Hid (Below w.heap.size w w2) := HB1.out.trans (hb2.mono HB1.out.size)
      clear hb2
      cases v2 with
      | false =>
        go_wp2
        go_ret
        rw [he.out]
        exact ⟨rfl, HB2.out⟩
      | true =>
        by_cases h2 : p2 = b
        · have h2' : (p2.toList == b.toList) = true := by rw [str_beq]; simp [h2]
          have he' : Hid (nearB a b = true) := by show _ = _; rw [he.out]; simp [h2]
          clear h2
          go_wp2
          go_ret
          rw [he'.out]
          exact ⟨rfl, HB2.out⟩
        · have h2' : (p2.toList == b.toList) = false := by rw [str_beq]; simp [h2]
          have he' : Hid (nearB a b = false) := by show _ = _; rw [he.out]; simp [h2]
          clear h2
          go_wp2
          go_ret
          rw [he'.out]
          exact ⟨rfl, HB2.out⟩
    | true =>
      by_cases h1 : p1 = a
      · have h1' : (p1.toList == a.toList) = true := by rw [str_beq]; simp [h1]
        have he' : Hid (nearB a b = true) := by show _ = _; rw [he.out]; simp [h1]
        clear h1
        go_wp2
        go_ret
        rw [he'.out]
        exact ⟨rfl, HB1.out⟩
      · have h1' : (p1.toList == a.toList) = false := by rw [str_beq]; simp [h1]
        have he1 : Hid (nearB a b = (v2 && decide (p2 = b))) := by show _ = _; rw [he.out]; simp [h1]
        clear h1
        go_wp2_with fail
        refine (parent_is a p2 v2 Hp2.out _ ha).mono ?_
        rintro e w2 ⟨rfl, hb2⟩
        have HB2 : Hid (Below w.heap.size w w2) := HB1.out.trans (hb2.mono HB1.out.size)
        clear hb2
        cases v2 with
        | false =>
          go_wp2
          go_ret
          rw [he1.out]
          exact ⟨rfl, HB2.out⟩
        | true =>
          by_cases h2 : p2 = b
          · have h2' : (p2.toList == b.toList) = true := by rw [str_beq]; simp [h2]
            have he' : Hid (nearB a b = true) := by show _ = _; rw [he1.out]; simp [h2]
            clear h2
            go_wp2
            go_ret
            rw [he'.out]
            exact ⟨rfl, HB2.out⟩
          · have h2' : (p2.toList == b.toList) = false := by rw [str_beq]; simp [h2]
            have he' : Hid (nearB a b = false) := by show _ = _; rw [he1.out]; simp [h2]
            clear h2
            go_wp2
            go_ret
            rw [he'.out]
            exact ⟨rfl, HB2.out⟩
theorem isNear_is (a b : ByteArray) (v : Bool) (h : nearB a b = v) (w : World) (ha : a.size ≤ 70368744177664) (hb : b.size ≤ 70368744177664) : Calls Tryz.prog 50 #[.string a, .string b] w fun r w' => r = .returned (.bool v) ∧ Below w.heap.size w w' := by
  subst h; exact isNear_any a b w ha hb
set_option maxHeartbeats 400000 in
theorem isSignal_any (n : Int) (w : World) : Calls Tryz.prog 49 #[.int .i64 n] w fun r w' => r = .returned (.bool (sigB n)) ∧ w = w' := by
  by_cases h1 : 1 ≤ n
  · go_enter Tryz.func49, Tryz.ntmps49
    go_wp2
    go_ret
    exact ⟨by simp [sigB, h1], rfl⟩
  · have h3 : sigB n = false := by simp [sigB, h1]
    go_enter Tryz.func49, Tryz.ntmps49
    go_wp2
    go_ret
    exact ⟨rfl, rfl⟩
theorem isSignal_is (n : Int) (v : Bool) (h : sigB n = v) (w : World) : Calls Tryz.prog 49 #[.int .i64 n] w fun r w' => r = .returned (.bool v) ∧ w = w' := by
  subst h; exact isSignal_any n w

def checkN1 (a : ByteArray) : Nat := if validB a = false then 12 else 0
def checkN2 (a b : ByteArray) : Nat := if validB a = false ∨ validB b = false then 12 else 0
set_option maxRecDepth 100000 in
set_option maxHeartbeats 1000000 in
/-- check, with the names of a slice. -/
theorem sCheck_any (v X n c : Nat) (f : Nat → ByteArray) (q : Nat) (w : World) (hc : ∀ k, k < n → w.cell? ⟨X, k, none⟩ = some (.string (f k))) (hf : ∀ k, k < n → (f k).size ≤ 70368744177664) (hn : n ≤ 100) (hq : (q = 12 ∧ ∃ k, k < n ∧ validB (f k) = false) ∨ (q = 0 ∧ ∀ k, k < n → validB (f k) = true)) :
    Calls Tryz.prog 46 #[.pointer (some ⟨v, 0, none⟩), .slice (some ⟨X, 0, none⟩) n c] w fun r w' => r = .returned (.int .i64 q) ∧ Below w.heap.size w w' := by
  have Hc := Lib.hid hc; clear hc
  have Hf := Lib.hid hf; clear hf
  have Hq := Lib.hid hq; clear hq
  go_enter Tryz.func46, Tryz.ntmps46
  go_wp2
  go_loopw [11] (fun i wr => ∃ k : Nat, k ≤ n ∧ i = .int .i64 k ∧ Hid (∀ j, j < k → validB (f j) = true) ∧ Hid (Below w.heap.size w wr)) (fun i _ => n - (intOf i).toNat)
  case atStart => exact ⟨0, by omega, rfl, fun j hj => by omega, Below.refl _ _⟩
  case round =>
    obtain ⟨k, hk, rfl, Hd, HB⟩ := hrel
    by_cases h4 : k < n
    · have hck : wr.cell? ⟨X, k, none⟩ = some (.string (f k)) := ((bcell HB.out).1 _ _ (World.block_lt_of_cell? w ⟨X, k, none⟩ (Hc.out k h4))).trans (Hc.out k h4)
      have hfk := Hf.out k h4
      have Hk4 := Lib.hid h4
      obtain ⟨x, hx⟩ : ∃ x, f k = x := ⟨_, rfl⟩
      rw [hx] at hck hfk
      have Hx := Lib.hid hx; clear hx
      go_wp2_with fail
      cases hv : validB x with
      | false =>
        have he : Hid (q = 12) := by
          show _ = _
          rcases Hq.out with h | h
          · exact h.1
          · have := h.2 k Hk4.out
            rw [Hx.out, hv] at this
            cases this
        refine (valid_is x _ hfk hv _).mono ?_
        rintro e w1 ⟨rfl, hb1⟩
        have HB1 : Hid (Below w.heap.size w w1) := HB.out.trans (hb1.mono HB.out.size)
        clear hb1
        go_wp2
        go_ret
        rw [he.out]
        exact ⟨rfl, HB1.out⟩
      | true =>
        refine (valid_is x _ hfk hv _).mono ?_
        rintro e w1 ⟨rfl, hb1⟩
        have HB1 : Hid (Below w.heap.size w w1) := HB.out.trans (hb1.mono HB.out.size)
        have Hv := Lib.hid hv
        clear hb1 hv
        go_wp2
        go_roundw
        case rel =>
          refine ⟨k + 1, by omega, by go_num, fun j hj => ?_, HB1.out⟩
          by_cases hjk : j = k
          · subst hjk; rw [Hx.out]; exact Hv.out
          · exact Hd.out j (by omega)
        case measure => simp [intOf]; omega
    · have he : Hid (q = 0) := by
        show _ = _
        rcases Hq.out with h | h
        · obtain ⟨-, j, hj, hb⟩ := h
          have := Hd.out j (by omega)
          rw [hb] at this
          cases this
        · exact h.1
      go_wp2
      go_ret
      rw [he.out]
      exact ⟨rfl, HB.out⟩

end Go.Proofs.YtpieaakdddgdeaaGreatDoor

namespace Go.Proofs.YtpieaakdddgdeaaGreatDoor
open Go.RowKit
attribute [local go_sem ↓] Go.wp_at_zero Go.wp_at_succ

theorem SR.gk {w0 w w' : World} {b N : Nat} {m : ByteArray} {o : Option RecT} {G : Nat → Prop} (s : SR w0 w b N m o G) (hb : Below w.heap.size w w') : ∀ k, G k → w'.heap[k]? = w.heap[k]? := by
  obtain ⟨⟨V, h, hv, h1, h2, h3, h4⟩, h5⟩ := s
  exact fun k hk => hb.block k (h4 k hk).2.1
theorem SR.glt {w0 w : World} {b N : Nat} {m : ByteArray} {o : Option RecT} {G : Nat → Prop} (s : SR w0 w b N m o G) : ∀ k, G k → k < w.heap.size := by
  obtain ⟨⟨V, h, hv, h1, h2, h3, h4⟩, h5⟩ := s
  exact fun k hk => (h4 k hk).2.1
/-- What goes on: the view as it was, the guarded blocks as at w. -/
structure SRG (w0 : World) (b N : Nat) (m : ByteArray) (o : Option RecT) (G : Nat → Prop) (w w' : World) : Prop where
  s : SR w0 w' b N m o G
  g : ∀ k, G k → w'.heap[k]? = w.heap[k]?
  le : w.heap.size ≤ w'.heap.size
section
variable {w0 w w1 w2 : World} {b N : Nat} {m : ByteArray} {o : Option RecT} {G : Nat → Prop}
theorem SR.start (s : SR w0 w b N m o G) : SRG w0 b N m o G w w := ⟨s, fun _ _ => rfl, Nat.le_refl _⟩
theorem SRG.later (s : SRG w0 b N m o G w w1) (hb : Below w1.heap.size w1 w2) : SRG w0 b N m o G w w2 :=
  ⟨s.s.later hb, fun k hk => (s.s.gk hb k hk).trans (s.g k hk), Nat.le_trans s.le hb.size⟩
theorem SRG.then_ {N' : Nat} {o' : Option RecT} (s : SRG w0 b N m o G w w1) (h : SR w0 w2 b N' m o' G ∧ ∀ k, G k → w2.heap[k]? = w1.heap[k]?) (hz : w1.heap.size ≤ w2.heap.size) : SRG w0 b N' m o' G w w2 :=
  ⟨h.1, fun k hk => (h.2 k hk).trans (s.g k hk), Nat.le_trans s.le hz⟩
end

set_option maxRecDepth 100000 in
set_option maxHeartbeats 1600000 in
theorem srPut (w0 w : World) (b N : Nat) (m : ByteArray) (o : Option RecT) (G : Nat → Prop) (s : SR w0 w b N m o G) (hm : validB m = true ∧ m.size ≤ 70368744177664) (hN : N < 1000000)
    (p bl i h0 h1 h2 h3 h4 h5 h6 h7 : Int) (hc : checkR ⟨p, bl, i, h0, h1, h2, h3, h4, h5, h6, h7⟩ = 0) :
    Calls Tryz.prog 52 #[.pointer (some ⟨b, 0, none⟩), .string m, .agg #[.int .i64 p, .int .i64 bl, .int .i64 i, .int .i64 h0, .int .i64 h1, .int .i64 h2, .int .i64 h3, .int .i64 h4, .int .i64 h5, .int .i64 h6, .int .i64 h7]] w (SRP w0 b (N + 1) m (some ⟨p, bl, i, h0, h1, h2, h3, h4, h5, h6, h7⟩) G w (.int .i64 0)) := by
  have Hc := Lib.hid hc; clear hc
  have S := Lib.hid s; clear s
  have he : Hid (encR ⟨p, bl, i, h0, h1, h2, h3, h4, h5, h6, h7⟩ = (strOf (encRB ⟨p, bl, i, h0, h1, h2, h3, h4, h5, h6, h7⟩), 0)) := if_pos Hc.out
  have Ha : Hid (∀ o', Below w.heap.size w (w.alloc o')) := fun o' => (Below.refl _ _).alloc (Nat.le_refl _) _
  go_enter Tryz.func52, Tryz.ntmps52
  go_wp2_with fail
  refine (rEncode_any p bl i h0 h1 h2 h3 h4 h5 h6 h7 _).mono ?_
  rw [he.out]
  rintro r w1 ⟨rfl, hb1⟩
  have hb1' := (Ha.out _).trans (hb1.mono (Ha.out _).size)
  have S1 := Lib.hid (S.out.later hb1')
  have HG : Hid (∀ k, G k → w1.heap[k]? = w.heap[k]?) := S.out.gk hb1'
  clear hb1 hb1'
  go_wp2_with fail
  refine (ofPend_any m _).mono ?_
  rintro r w2 ⟨rfl, hb2⟩
  have S2 := Lib.hid (S1.out.later hb2)
  have HG2 : Hid (∀ k, G k → w2.heap[k]? = w.heap[k]?) := fun k hk => (S1.out.gk hb2 k hk).trans (HG.out k hk)
  clear hb2 S1 HG
  go_wp2_with fail
  refine (srVSet w0 w2 b N m o G S2.out hm hN _ Hc.out).mono ?_
  rintro r w3 ⟨rfl, s3, hk3⟩
  have S3 := Lib.hid s3; clear s3
  have HG3 : Hid (∀ k, G k → w3.heap[k]? = w.heap[k]?) := fun k hk => (hk3 k hk).trans (HG2.out k hk)
  clear hk3
  go_wp2
  go_ret
  exact ⟨rfl, S3.out, HG3.out⟩

def rHas : Option RecT → RecT × Nat
  | none => (zeroR, 8)
  | some r => (r, 0)
/-- What Get leaves. -/
def RGetPost (w0 : World) (b N : Nat) (m : ByteArray) (o : Option RecT) (G : Nat → Prop) (w : World) (r : Ending) (w' : World) : Prop :=
  r = .returned (.tuple #[recV (rHas o).1, .int .i64 (rHas o).2]) ∧ SR w0 w' b N m o G ∧ ∀ k, G k → w'.heap[k]? = w.heap[k]?
theorem rget_fin {w0 w w3 w4 X : World} {b N : Nat} {m : ByteArray} {o : Option RecT} {G : Nat → Prop} (hsz : w.heap.size ≤ w3.heap.size)
    (S3 : SR w0 w3 b N m o (fun k => G k ∨ k = w.heap.size)) (hG3 : ∀ k, G k → w3.heap[k]? = w.heap[k]?) (hGw : ∀ k, G k → k < w.heap.size) (hb : Below w3.heap.size w3 w4) (hg : w4.grownBy X (some w.heap.size)) :
    SR w0 X b N m o G ∧ ∀ k, G k → X.heap[k]? = w.heap[k]? := by
  have hlt : w.heap.size < w3.heap.size := S3.glt _ (.inr rfl)
  have hK : Kept (fun k => G k ∨ k = w.heap.size) w3 X := (Kept.of_below hb _).trans (Kept.of_grown hg _ (fun k hk => by cases hk; exact .inr rfl)) (fun _ _ hs => hs)
  refine ⟨S3.guarded hK (fun k hk => .inl (.inl hk)), fun k hk => ?_⟩
  have hkw := hGw k hk
  exact (hg.block k (Nat.lt_of_lt_of_le hkw (Nat.le_trans hsz hb.size)) (fun e => by cases e; exact absurd hkw (Nat.lt_irrefl _))).trans ((hb.block k (Nat.lt_of_lt_of_le hkw hsz)).trans (hG3 k hk))

set_option maxRecDepth 100000 in
set_option maxHeartbeats 1600000 in
theorem srGet (w0 w : World) (b N : Nat) (m : ByteArray) (o : Option RecT) (G : Nat → Prop) (s : SR w0 w b N m o G) (hm : validB m = true ∧ m.size ≤ 70368744177664) :
    Calls Tryz.prog 14 #[.pointer (some ⟨b, 0, none⟩), .string m] w (RGetPost w0 b N m o G w) := by
  have HGw : Hid (∀ k, G k → k < w.heap.size) := s.glt
  have S0 : Hid (∀ o' o2, SR w0 ((w.alloc o').alloc o2) b N m o (fun k => G k ∨ k = w.heap.size)) := fun o' o2 => s.fresh (((Below.refl _ _).alloc (Nat.le_refl _) _).alloc (by simp) _) (fun k hk => hk.imp id (fun h => by subst h; simp; omega))
  have HG0 : Hid (∀ o' o2, ∀ k, G k → ((w.alloc o').alloc o2).heap[k]? = w.heap[k]?) := fun o' o2 => s.gk (((Below.refl _ _).alloc (Nat.le_refl _) _).alloc (by simp) _)
  have HR0 : Hid (∀ o' o2, ((w.alloc o').alloc o2).heap[w.heap.size]? = some o') := fun o' o2 => (Below.heap_alloc _ _ _ (by simp)).trans (World.alloc_heap_new w _)
  have HX0 : Hid (∀ o' v T, ((w.alloc o').alloc (.cells #[v] T)).cell? ⟨w.heap.size + 1, 0, none⟩ = some v) := fun o' v T => cell_of_heap (second_newS w _ _) 0
  clear s
  go_enter Tryz.func14, Tryz.ntmps14
  go_wp2_with fail
  refine (sCheck_any b (w.heap.size + 1) 1 1 (fun _ => m) 0 _ (fun k hk => by obtain rfl : k = 0 := by omega
                                                                              exact HX0.out _ _ _) (fun _ _ => hm.2) (by omega) (.inr ⟨rfl, fun _ _ => hm.1⟩)).mono ?_
  rintro r w1 ⟨rfl, hb⟩
  have S1 := Lib.hid ((S0.out _ _).later hb)
  have HG1 : Hid (∀ k, G k → w1.heap[k]? = w.heap[k]?) := fun k hk => ((S0.out _ _).gk hb k (.inl hk)).trans (HG0.out _ _ k hk)
  have HR1 := Lib.hid ((hb.block _ (lt_of_heap (HR0.out _ _))).trans (HR0.out _ _))
  clear hb S0 HG0 HR0 HX0
  go_wp2_with fail
  refine (ofPend_any m _).mono ?_
  rintro r w2 ⟨rfl, hb⟩
  have S2 := Lib.hid (S1.out.later hb)
  have HG2 : Hid (∀ k, G k → w2.heap[k]? = w.heap[k]?) := fun k hk => (S1.out.gk hb k (.inl hk)).trans (HG1.out k hk)
  have HR2 := Lib.hid ((hb.block _ (lt_of_heap HR1.out)).trans HR1.out)
  clear hb S1 HG1 HR1
  go_wp2_with fail
  refine (srVGet w0 w2 b N m o _ S2.out hm).mono ?_
  rintro r w3 ⟨sv, rfl, hsv, s3, hk3⟩
  have S3 := Lib.hid s3
  have HG3 : Hid (∀ k, G k → w3.heap[k]? = w.heap[k]?) := fun k hk => (hk3 k (.inl hk)).trans (HG2.out k hk)
  have hR3 : w3.heap[w.heap.size]? = some (.cells (rCells zeroR) 30 (0, 0)) := (hk3 w.heap.size (.inr rfl)).trans HR2.out
  have Hsv := Lib.hid hsv
  clear s3 hk3 S2 HG2 HR2 hsv
  have Hz3 : Hid (w.heap.size ≤ w3.heap.size) := Nat.le_of_lt (lt_of_heap hR3)
  have HR3 := Lib.hid hR3; clear hR3
  cases o with
  | none =>
    obtain ⟨r0, r1, r2, r3, r4, r5, r6, r7, r8, r9, r10⟩ := at11 HR3.out
    obtain ⟨g0, g1, g2, g3, g4, g5, g6, g7, g8, g9, g10⟩ := free11 HR3.out
    dsimp only [Option.isSome]
    go_wp2
    refine bodyPost_ret (v := .tuple #[.agg #[.int .i64 0, .int .i64 0, .int .i64 0, .int .i64 0, .int .i64 0, .int .i64 0, .int .i64 0, .int .i64 0, .int .i64 0, .int .i64 0, .int .i64 0], .int .i64 8]) (by simp [results, Tryz.results14, go_sem, r0, r1, r2, r3, r4, r5, r6, r7, r8, r9, r10]) rfl ?_
    exact ⟨rfl, rget_fin Hz3.out S3.out HG3.out HGw.out (Below.refl _ _) (set11_grown _ _ _ _ _ _ _ _ _ _ _ _ _)⟩
  | some p' =>
    obtain rfl := Hsv.out p' rfl
    have hck := S3.out.check
    have hdec := rdec_enc p' hck
    have hsz : (strOf (encRB p')).size ≤ 35184372088832 := Nat.le_trans (encRB_size p') (by decide)
    have Hdec := Lib.hid hdec; clear hdec hck Hsv
    dsimp only [Option.isSome]
    go_wp2_with fail
    refine (rDecode_any _ _ hsz).mono ?_
    rw [Hdec.out]
    rintro r w4 ⟨rfl, hb⟩
    have HB := Lib.hid hb
    have hR4 := (hb.block w.heap.size (lt_of_heap HR3.out)).trans HR3.out
    clear hb
    obtain ⟨r0, r1, r2, r3, r4, r5, r6, r7, r8, r9, r10⟩ := at11 hR4
    obtain ⟨g0, g1, g2, g3, g4, g5, g6, g7, g8, g9, g10⟩ := free11 hR4
    clear hR4
    obtain ⟨p, bl, i, h0, h1, h2, h3, h4, h5, h6, h7⟩ := p'
    dsimp only [recV, rCells] at *
    go_wp2
    refine bodyPost_ret (v := .tuple #[.agg #[.int .i64 p, .int .i64 bl, .int .i64 i, .int .i64 h0, .int .i64 h1, .int .i64 h2, .int .i64 h3, .int .i64 h4, .int .i64 h5, .int .i64 h6, .int .i64 h7], .int .i64 0]) (by simp [results, Tryz.results14, go_sem, r0, r1, r2, r3, r4, r5, r6, r7, r8, r9, r10]) rfl ?_
    exact ⟨rfl, rget_fin Hz3.out S3.out HG3.out HGw.out HB.out (set11_grown _ _ _ _ _ _ _ _ _ _ _ _ _)⟩

set_option maxRecDepth 100000 in
set_option maxHeartbeats 1600000 in
theorem srAdd (w0 w : World) (b N : Nat) (m : ByteArray) (G : Nat → Prop) (s : SR w0 w b N m none G) (hm : validB m = true ∧ m.size ≤ 70368744177664) (hN : N < 1000000)
    (p bl i h0 h1 h2 h3 h4 h5 h6 h7 : Int) (hc : checkR ⟨p, bl, i, h0, h1, h2, h3, h4, h5, h6, h7⟩ = 0) :
    Calls Tryz.prog 104 #[.pointer (some ⟨b, 0, none⟩), .string m, .agg #[.int .i64 p, .int .i64 bl, .int .i64 i, .int .i64 h0, .int .i64 h1, .int .i64 h2, .int .i64 h3, .int .i64 h4, .int .i64 h5, .int .i64 h6, .int .i64 h7]] w (SRP w0 b (N + 1) m (some ⟨p, bl, i, h0, h1, h2, h3, h4, h5, h6, h7⟩) G w (.int .i64 0)) := by
  have Hc := Lib.hid hc; clear hc
  have HGw : Hid (∀ k, G k → k < w.heap.size) := s.glt
  have S0 : Hid (∀ o', SR w0 (w.alloc o') b N m none (fun k => G k ∨ k = w.heap.size)) := fun o' => s.fresh ((Below.refl _ _).alloc (Nat.le_refl _) _) (fun k hk => hk.imp id (fun h => by subst h; simp))
  have HG0 : Hid (∀ o', ∀ k, G k → (w.alloc o').heap[k]? = w.heap[k]?) := fun o' => s.gk ((Below.refl _ _).alloc (Nat.le_refl _) _)
  have HR0 : Hid (∀ o', (w.alloc o').heap[w.heap.size]? = some o') := fun o' => heap_alloc_new w o'
  clear s
  go_enter Tryz.func104, Tryz.ntmps104
  go_wp2_with fail
  refine (ofPend_any m _).mono ?_
  rintro r w2 ⟨rfl, hb⟩
  have S2 := Lib.hid ((S0.out _).later hb)
  have HG2 : Hid (∀ k, G k → w2.heap[k]? = w.heap[k]?) := fun k hk => ((S0.out _).gk hb k (.inl hk)).trans (HG0.out _ k hk)
  have HR2 := Lib.hid ((hb.block _ (lt_of_heap (HR0.out _))).trans (HR0.out _))
  clear hb S0 HG0 HR0
  go_wp2_with fail
  refine (srVHas w0 w2 b N m none _ S2.out hm).mono ?_
  rintro r w3 ⟨rfl, s3, hk3⟩
  have S3 : Hid (SR w0 w3 b N m none G) := s3.fresh (Below.refl _ _) (fun k hk => .inl (.inl hk))
  have HG3 : Hid (∀ k, G k → w3.heap[k]? = w.heap[k]?) := fun k hk => (hk3 k (.inl hk)).trans (HG2.out k hk)
  have hR3 : w3.heap[w.heap.size]? = some (.cells (rCells ⟨p, bl, i, h0, h1, h2, h3, h4, h5, h6, h7⟩) 30 (0, 0)) := (hk3 w.heap.size (.inr rfl)).trans HR2.out
  clear s3 hk3 S2 HG2 HR2
  obtain ⟨c0, c1, c2, c3, c4, c5, c6, c7, c8, c9, c10⟩ := at11 hR3
  dsimp only at c0 c1 c2 c3 c4 c5 c6 c7 c8 c9 c10
  clear hR3
  dsimp only [Option.isSome]
  go_wp2_with fail
  refine (srPut w0 w3 b N m none G S3.out hm hN p bl i h0 h1 h2 h3 h4 h5 h6 h7 Hc.out).mono ?_
  rintro r w4 ⟨rfl, s4, hk4⟩
  have S4 := Lib.hid s4; clear s4
  have HG4 : Hid (∀ k, G k → w4.heap[k]? = w.heap[k]?) := fun k hk => (hk4 k hk).trans (HG3.out k hk)
  clear hk4 c0 c1 c2 c3 c4 c5 c6 c7 c8 c9 c10
  go_wp2
  go_ret
  exact ⟨rfl, S4.out, HG4.out⟩

theorem zero_ok : checkR ⟨0, 0, 0, 0, 0, 0, 0, 0, 0, 0, 0⟩ = 0 := by decide +kernel
set_option maxRecDepth 100000 in
set_option maxHeartbeats 1600000 in
theorem srMake (w0 w : World) (b N : Nat) (m : ByteArray) (G : Nat → Prop) (s : SR w0 w b N m none G) (hm : validB m = true ∧ m.size ≤ 70368744177664) (hN : N < 1000000) :
    Calls Tryz.prog 44 #[.pointer (some ⟨b, 0, none⟩), .string m] w (SRP w0 b (N + 1) m (some ⟨0, 0, 0, 0, 0, 0, 0, 0, 0, 0, 0⟩) G w (.int .i64 0)) := by
  have S0 : Hid (∀ o', SR w0 (w.alloc o') b N m none G) := fun o' => s.later ((Below.refl _ _).alloc (Nat.le_refl _) _)
  have HG0 : Hid (∀ o', ∀ k, G k → (w.alloc o').heap[k]? = w.heap[k]?) := fun o' => s.gk ((Below.refl _ _).alloc (Nat.le_refl _) _)
  have HX0 : Hid (∀ v T, (w.alloc (.cells #[v] T)).cell? ⟨w.heap.size, 0, none⟩ = some v) := fun v T => cell_box _ _ _
  clear s
  go_enter Tryz.func44, Tryz.ntmps44
  go_wp2_with fail
  refine (sCheck_any b w.heap.size 1 1 (fun _ => m) 0 _ (fun k hk => by obtain rfl : k = 0 := by omega
                                                                        exact HX0.out _ _) (fun _ _ => hm.2) (by omega) (.inr ⟨rfl, fun _ _ => hm.1⟩)).mono ?_
  rintro r w1 ⟨rfl, hb⟩
  have S1 := Lib.hid ((S0.out _).later hb)
  have HG1 : Hid (∀ k, G k → w1.heap[k]? = w.heap[k]?) := fun k hk => ((S0.out _).gk hb k hk).trans (HG0.out _ k hk)
  clear hb S0 HG0 HX0
  go_wp2_with fail
  refine (srAdd w0 w1 b N m G S1.out hm hN 0 0 0 0 0 0 0 0 0 0 0 zero_ok).mono ?_
  rintro r w4 ⟨rfl, s4, hk4⟩
  have S4 := Lib.hid s4; clear s4
  have HG4 : Hid (∀ k, G k → w4.heap[k]? = w.heap[k]?) := fun k hk => (hk4 k hk).trans (HG1.out k hk)
  clear hk4
  go_wp2
  go_ret
  exact ⟨rfl, S4.out, HG4.out⟩

end Go.Proofs.YtpieaakdddgdeaaGreatDoor

namespace Go.Proofs.YtpieaakdddgdeaaGreatDoor
open Go.RowKit
attribute [local go_sem ↓] Go.wp_at_zero Go.wp_at_succ

def withoutB (r : RecT) (n : Int) : Bool := hasB r.i n || ((n == 4) && (r.h4 == 0))
def takesB (r : RecT) (n : Int) : Bool := hasB r.p n && !hasB r.b n && !withoutB r n
/-- The first signal from s on, of f many, that is taken. -/
def nextFrom (r : RecT) : Nat → Nat → Int
  | _, 0 => 0
  | s, f + 1 => if takesB r s = true then s else nextFrom r (s + 1) f
def nextB (r : RecT) : Int := if takesB r 3 = true then 3 else nextFrom r 1 7

set_option maxRecDepth 100000 in
set_option maxHeartbeats 1000000 in
theorem withoutEffect_any (p bl i h0 h1 h2 h3 h4 h5 h6 h7 : Int) (n : Int) (hn : 0 ≤ n ∧ n < 8) (w : World) : Calls Tryz.prog 51 #[.agg #[.int .i64 p, .int .i64 bl, .int .i64 i, .int .i64 h0, .int .i64 h1, .int .i64 h2, .int .i64 h3, .int .i64 h4, .int .i64 h5, .int .i64 h6, .int .i64 h7], .int .i64 n] w fun r w' => r = .returned (.bool (withoutB ⟨p, bl, i, h0, h1, h2, h3, h4, h5, h6, h7⟩ n)) ∧ Below w.heap.size w w' := by
  have Ha : Hid (∀ o, Below w.heap.size w (w.alloc o)) := fun o => (Below.refl _ _).alloc (Nat.le_refl _) _
  go_enter Tryz.func51, Tryz.ntmps51
  go_wp2_with fail
  cases hv : hasB i n with
  | true =>
    have he : Hid (withoutB ⟨p, bl, i, h0, h1, h2, h3, h4, h5, h6, h7⟩ n = true) := by show _ = _; simp [withoutB, hv]
    refine (setHas_is i n _ hv hn _).mono ?_
    rintro r w1 ⟨rfl, rfl⟩
    go_wp2
    go_ret
    rw [he.out]
    exact ⟨rfl, Ha.out _⟩
  | false =>
    have he : Hid (withoutB ⟨p, bl, i, h0, h1, h2, h3, h4, h5, h6, h7⟩ n = ((n == 4) && (h4 == 0))) := by show _ = _; simp [withoutB, hv]
    refine (setHas_is i n _ hv hn _).mono ?_
    rintro r w1 ⟨rfl, rfl⟩
    cases hn4 : (n == 4) with
    | true =>
      go_wp2
      go_ret
      rw [he.out]
      refine ⟨?_, Ha.out _⟩
      rw [hn4, Bool.true_and]
      rfl
    | false =>
      go_wp2
      go_ret
      rw [he.out]
      refine ⟨?_, Ha.out _⟩
      rw [hn4, Bool.false_and]
      rfl
theorem withoutEffect_is (p bl i h0 h1 h2 h3 h4 h5 h6 h7 : Int) (n : Int) (hn : 0 ≤ n ∧ n < 8) (v : Bool) (h : withoutB ⟨p, bl, i, h0, h1, h2, h3, h4, h5, h6, h7⟩ n = v) (w : World) : Calls Tryz.prog 51 #[.agg #[.int .i64 p, .int .i64 bl, .int .i64 i, .int .i64 h0, .int .i64 h1, .int .i64 h2, .int .i64 h3, .int .i64 h4, .int .i64 h5, .int .i64 h6, .int .i64 h7], .int .i64 n] w fun r w' => r = .returned (.bool v) ∧ Below w.heap.size w w' := by
  subst h; exact withoutEffect_any p bl i h0 h1 h2 h3 h4 h5 h6 h7 n hn w

set_option maxRecDepth 100000 in
set_option maxHeartbeats 1000000 in
theorem takes_any (X : Nat) (p bl i h0 h1 h2 h3 h4 h5 h6 h7 : Int) (n : Int) (hn : 0 ≤ n ∧ n < 8) (w : World) (hX : w.heap[X]? = some (.cells (rCells ⟨p, bl, i, h0, h1, h2, h3, h4, h5, h6, h7⟩) 30 (0, 0))) : Calls Tryz.prog 111 #[.int .i64 n, .pointer (some ⟨X, 0, none⟩)] w fun r w' => r = .returned (.bool (takesB ⟨p, bl, i, h0, h1, h2, h3, h4, h5, h6, h7⟩ n)) ∧ Below w.heap.size w w' := by
  obtain ⟨c0, c1, c2, c3, c4, c5, c6, c7, c8, c9, c10⟩ := at11 hX
  dsimp only at c0 c1 c2 c3 c4 c5 c6 c7 c8 c9 c10
  clear hX
  go_enter Tryz.func111, Tryz.ntmps111
  go_wp2_with fail
  cases hv : hasB p n with
  | false =>
    have he : Hid (takesB ⟨p, bl, i, h0, h1, h2, h3, h4, h5, h6, h7⟩ n = false) := by show _ = _; simp [takesB, hv]
    refine (setHas_is p n _ hv hn _).mono ?_
    rintro r w1 ⟨rfl, rfl⟩
    go_wp2
    go_ret
    rw [he.out]
    exact ⟨rfl, Below.refl _ _⟩
  | true =>
    refine (setHas_is p n _ hv hn _).mono ?_
    rintro r w1 ⟨rfl, rfl⟩
    go_wp2_with fail
    cases hv2 : hasB bl n with
    | true =>
      have he : Hid (takesB ⟨p, bl, i, h0, h1, h2, h3, h4, h5, h6, h7⟩ n = false) := by show _ = _; simp [takesB, hv2]
      refine (setHas_is bl n _ hv2 hn _).mono ?_
      rintro r w1 ⟨rfl, rfl⟩
      go_wp2
      go_ret
      rw [he.out]
      exact ⟨rfl, Below.refl _ _⟩
    | false =>
      refine (setHas_is bl n _ hv2 hn _).mono ?_
      rintro r w1 ⟨rfl, rfl⟩
      have he : Hid (takesB ⟨p, bl, i, h0, h1, h2, h3, h4, h5, h6, h7⟩ n = !withoutB ⟨p, bl, i, h0, h1, h2, h3, h4, h5, h6, h7⟩ n) := by show _ = _; simp [takesB, hv, hv2]
      go_wp2_with fail
      refine (withoutEffect_any p bl i h0 h1 h2 h3 h4 h5 h6 h7 n hn _).mono ?_
      rintro r w1 ⟨rfl, hb⟩
      generalize withoutB ⟨p, bl, i, h0, h1, h2, h3, h4, h5, h6, h7⟩ n = v at *
      clear hv hv2
      go_wp2
      go_ret
      rw [he.out]
      exact ⟨rfl, hb⟩
theorem takes_is (X : Nat) (p bl i h0 h1 h2 h3 h4 h5 h6 h7 : Int) (n : Int) (hn : 0 ≤ n ∧ n < 8) (v : Bool) (h : takesB ⟨p, bl, i, h0, h1, h2, h3, h4, h5, h6, h7⟩ n = v) (w : World) (hX : w.heap[X]? = some (.cells (rCells ⟨p, bl, i, h0, h1, h2, h3, h4, h5, h6, h7⟩) 30 (0, 0))) : Calls Tryz.prog 111 #[.int .i64 n, .pointer (some ⟨X, 0, none⟩)] w fun r w' => r = .returned (.bool v) ∧ Below w.heap.size w w' := by
  subst h; exact takes_any X p bl i h0 h1 h2 h3 h4 h5 h6 h7 n hn w hX

set_option maxRecDepth 100000 in
set_option maxHeartbeats 1000000 in
theorem next_any (p bl i h0 h1 h2 h3 h4 h5 h6 h7 : Int) (w : World) : Calls Tryz.prog 53 #[.agg #[.int .i64 p, .int .i64 bl, .int .i64 i, .int .i64 h0, .int .i64 h1, .int .i64 h2, .int .i64 h3, .int .i64 h4, .int .i64 h5, .int .i64 h6, .int .i64 h7]] w fun r w' => r = .returned (.int .i64 (nextB ⟨p, bl, i, h0, h1, h2, h3, h4, h5, h6, h7⟩)) ∧ Below w.heap.size w w' := by
  have Ha : Hid (∀ o, Below w.heap.size w (w.alloc o)) := fun o => (Below.refl _ _).alloc (Nat.le_refl _) _
  have HX : Hid (∀ o, (w.alloc o).heap[w.heap.size]? = some o) := fun o => heap_alloc_new w o
  go_enter Tryz.func53, Tryz.ntmps53
  go_wp2_with fail
  cases hv : takesB ⟨p, bl, i, h0, h1, h2, h3, h4, h5, h6, h7⟩ 3 with
  | true =>
    have he : Hid (nextB ⟨p, bl, i, h0, h1, h2, h3, h4, h5, h6, h7⟩ = 3) := if_pos hv
    refine (takes_is w.heap.size p bl i h0 h1 h2 h3 h4 h5 h6 h7 3 (by omega) _ hv _ (HX.out _)).mono ?_
    rintro r w1 ⟨rfl, hb⟩
    have HB1 : Hid (Below w.heap.size w w1) := (Ha.out _).trans (hb.mono (by simp))
    clear hb
    go_wp2
    go_ret
    rw [he.out]
    exact ⟨rfl, HB1.out⟩
  | false =>
    have he : Hid (nextB ⟨p, bl, i, h0, h1, h2, h3, h4, h5, h6, h7⟩ = nextFrom ⟨p, bl, i, h0, h1, h2, h3, h4, h5, h6, h7⟩ 1 7) := if_neg (by rw [hv]; simp)
    refine (takes_is w.heap.size p bl i h0 h1 h2 h3 h4 h5 h6 h7 3 (by omega) _ hv _ (HX.out _)).mono ?_
    rintro r w1 ⟨rfl, hb⟩
    have HB1 : Hid (Below w.heap.size w w1) := (Ha.out _).trans (hb.mono (by simp))
    have HX1 : Hid (w1.heap[w.heap.size]? = some (.cells (rCells ⟨p, bl, i, h0, h1, h2, h3, h4, h5, h6, h7⟩) 30 (0, 0))) := (hb.block _ (by simp)).trans (HX.out _)
    clear hb hv HX Ha
    go_wp2
    go_loopw [4] (fun s wr => ∃ k : Nat, k ≤ 7 ∧ s = .int .i64 ((k : Int) + 1) ∧ Hid (nextFrom ⟨p, bl, i, h0, h1, h2, h3, h4, h5, h6, h7⟩ 1 7 = nextFrom ⟨p, bl, i, h0, h1, h2, h3, h4, h5, h6, h7⟩ (k + 1) (7 - k)) ∧ Hid (Below w.heap.size w wr) ∧ Hid (wr.heap[w.heap.size]? = some (.cells (rCells ⟨p, bl, i, h0, h1, h2, h3, h4, h5, h6, h7⟩) 30 (0, 0)))) (fun s _ => 8 - (intOf s).toNat)
    case atStart => exact ⟨0, by omega, rfl, rfl, HB1.out, HX1.out⟩
    case round =>
      obtain ⟨k, hk, rfl, Hd, HB, HXr⟩ := hrel
      clear HB1 HX1
      by_cases h8 : k < 7
      · have Hs : Hid (nextFrom ⟨p, bl, i, h0, h1, h2, h3, h4, h5, h6, h7⟩ (k + 1) (7 - k) = if takesB ⟨p, bl, i, h0, h1, h2, h3, h4, h5, h6, h7⟩ ((k : Int) + 1) = true then (k : Int) + 1 else nextFrom ⟨p, bl, i, h0, h1, h2, h3, h4, h5, h6, h7⟩ (k + 1 + 1) (7 - (k + 1))) := by
          show _ = _
          obtain ⟨f, hf⟩ : ∃ f, 7 - k = f + 1 := ⟨7 - k - 1, by omega⟩
          have hf' : 7 - (k + 1) = f := by omega
          rw [hf, hf', nextFrom]
          rfl
        go_wp2_with fail
        cases hv : takesB ⟨p, bl, i, h0, h1, h2, h3, h4, h5, h6, h7⟩ ((k : Int) + 1) with
        | true =>
          have he' : Hid (nextB ⟨p, bl, i, h0, h1, h2, h3, h4, h5, h6, h7⟩ = (k : Int) + 1) := by show _ = _; rw [he.out, Hd.out, Hs.out, if_pos hv]
          refine (takes_is w.heap.size p bl i h0 h1 h2 h3 h4 h5 h6 h7 _ (by omega) _ hv _ HXr.out).mono ?_
          rintro r w2 ⟨rfl, hb⟩
          have HB2 : Hid (Below w.heap.size w w2) := HB.out.trans (hb.mono HB.out.size)
          clear hb
          go_wp2
          go_ret
          rw [he'.out]
          exact ⟨rfl, HB2.out⟩
        | false =>
          have Hd' : Hid (nextFrom ⟨p, bl, i, h0, h1, h2, h3, h4, h5, h6, h7⟩ 1 7 = nextFrom ⟨p, bl, i, h0, h1, h2, h3, h4, h5, h6, h7⟩ (k + 1 + 1) (7 - (k + 1))) := by show _ = _; rw [Hd.out, Hs.out, if_neg (by rw [hv]; simp)]
          refine (takes_is w.heap.size p bl i h0 h1 h2 h3 h4 h5 h6 h7 _ (by omega) _ hv _ HXr.out).mono ?_
          rintro r w2 ⟨rfl, hb⟩
          have HB2 : Hid (Below w.heap.size w w2) := HB.out.trans (hb.mono HB.out.size)
          have HX2 := Lib.hid ((hb.block _ (lt_of_heap HXr.out)).trans HXr.out)
          clear hb hv
          go_wp2
          go_roundw
          case rel => exact ⟨k + 1, by omega, by go_num, Hd'.out, HB2.out, HX2.out⟩
          case measure => simp [intOf]; omega
      · obtain rfl : k = 7 := by omega
        have he' : Hid (nextB ⟨p, bl, i, h0, h1, h2, h3, h4, h5, h6, h7⟩ = 0) := he.out.trans Hd.out
        go_wp2
        go_ret
        rw [he'.out]
        exact ⟨rfl, HB.out⟩
theorem next_is (p bl i h0 h1 h2 h3 h4 h5 h6 h7 : Int) (v : Int) (h : nextB ⟨p, bl, i, h0, h1, h2, h3, h4, h5, h6, h7⟩ = v) (w : World) : Calls Tryz.prog 53 #[.agg #[.int .i64 p, .int .i64 bl, .int .i64 i, .int .i64 h0, .int .i64 h1, .int .i64 h2, .int .i64 h3, .int .i64 h4, .int .i64 h5, .int .i64 h6, .int .i64 h7]] w fun r w' => r = .returned (.int .i64 v) ∧ Below w.heap.size w w' := by
  subst h; exact next_any p bl i h0 h1 h2 h3 h4 h5 h6 h7 w

end Go.Proofs.YtpieaakdddgdeaaGreatDoor

namespace Go.Proofs.YtpieaakdddgdeaaGreatDoor
open Go.RowKit
attribute [local go_sem ↓] Go.wp_at_zero Go.wp_at_succ

def orP (p n : Int) : Int := bits BinOp.or IntKind.i64 p (wrap64 (2 ^ n.toNat))
theorem SR.setX {w0 w : World} {b N : Nat} {m : ByteArray} {o : Option RecT} {G : Nat → Prop} (S : SR w0 w b N m o G) (X : Nat) (hX : G X) (i : Nat) (v : Value) : SR w0 (w.setCell ⟨X, i, none⟩ v).drew b N m o G := by
  have h1 := Kept.of_grown (grown_setCell w X i v) G (fun k hk => by cases hk; exact hX)
  exact S.guarded (w' := (w.setCell ⟨X, i, none⟩ v).drew) ⟨h1.os, h1.tape, h1.output, h1.size, h1.block⟩ (fun k hk => .inl hk)
theorem setX_heap {w : World} {X : Nat} {r : RecT} {T : TypeId} (h : w.heap[X]? = some (.cells (rCells r) T (0, 0))) (v : Int) : (w.setCell ⟨X, 0, none⟩ (.int .i64 v)).drew.heap[X]? = some (.cells (rCells { r with p := v }) T (0, 0)) := by
  have := heap_setCell_same h 0 (.int .i64 v)
  exact this.trans (by simp [rCells])
theorem setX_other {w : World} {X k : Nat} (hk : k ≠ X) (i : Nat) (v : Value) : (w.setCell ⟨X, i, none⟩ v).drew.heap[k]? = w.heap[k]? := Below.heap_setCell _ _ _ _ hk
def two (a b : ByteArray) (k : Nat) : ByteArray := if k = 0 then a else b
set_option maxRecDepth 100000 in
set_option maxHeartbeats 1600000 in
theorem sSend_denied (w : World) (b : Nat) (from_ to_ : ByteArray) (n : Int) (h1 : validB from_ = true ∧ from_.size ≤ 70368744177664) (h2 : validB to_ = true ∧ to_.size ≤ 70368744177664) (hn : sigB n = true) (hnear : nearB from_ to_ = false) :
    Calls Tryz.prog 15 #[.pointer (some ⟨b, 0, none⟩), .string from_, .string to_, .int .i64 n] w fun r w' => r = .returned (.int .i64 14) ∧ Below w.heap.size w w' := by
  have Ha : Hid (∀ o, Below w.heap.size w (w.alloc o)) := fun o => (Below.refl _ _).alloc (Nat.le_refl _) _
  have HX0 : Hid (∀ v u T (j : Nat), (w.alloc (.cells #[v, u] T)).cell? ⟨w.heap.size, j, none⟩ = (#[v, u] : Array Value)[j]?) := fun v u T j => cell_of_heap (heap_alloc_new w _) j
  go_enter Tryz.func15, Tryz.ntmps15
  go_wp2_with fail
  refine (sCheck_any b w.heap.size 2 2 (two from_ to_) 0 _ (fun k hk => by
    rcases (by omega : k = 0 ∨ k = 1) with rfl | rfl
    · exact HX0.out _ _ _ 0
    · exact HX0.out _ _ _ 1) (fun k _ => by unfold two; split; exact h1.2; exact h2.2) (by omega) (.inr ⟨rfl, fun k _ => by unfold two; split; exact h1.1; exact h2.1⟩)).mono ?_
  rintro r w1 ⟨rfl, hb⟩
  have HB1 : Hid (Below w.heap.size w w1) := (Ha.out _).trans (hb.mono (by simp))
  clear hb Ha HX0
  go_wp2_with fail
  refine (isSignal_is n _ hn _).mono ?_
  rintro r w2 ⟨rfl, rfl⟩
  go_wp2_with fail
  refine (isNear_is from_ to_ _ hnear _ h1.2 h2.2).mono ?_
  rintro r w2 ⟨rfl, hb⟩
  have HB2 : Hid (Below w.heap.size w w2) := HB1.out.trans (hb.mono HB1.out.size)
  clear hb
  go_wp2
  go_ret
  exact ⟨rfl, HB2.out⟩

set_option maxRecDepth 100000 in
set_option maxHeartbeats 1600000 in
theorem srSend (w0 w : World) (b N : Nat) (m : ByteArray) (G : Nat → Prop) (p bl i h0 h1 h2 h3 h4 h5 h6 h7 : Int) (s : SR w0 w b N m (some ⟨p, bl, i, h0, h1, h2, h3, h4, h5, h6, h7⟩) G) (hm : validB m = true ∧ m.size ≤ 70368744177664) (hN : N < 1000000)
    (from_ : ByteArray) (n : Int) (hf : validB from_ = true ∧ from_.size ≤ 70368744177664) (hn : 1 ≤ n ∧ n < 8) (hnear : nearB from_ m = true) (hwo : withoutB ⟨p, bl, i, h0, h1, h2, h3, h4, h5, h6, h7⟩ n = false) (p' : Int) (hp' : orP p n = p') (hc : checkR ⟨p', bl, i, h0, h1, h2, h3, h4, h5, h6, h7⟩ = 0) :
    Calls Tryz.prog 15 #[.pointer (some ⟨b, 0, none⟩), .string from_, .string m, .int .i64 n] w (SRP w0 b (N + 1) m (some ⟨p', bl, i, h0, h1, h2, h3, h4, h5, h6, h7⟩) G w (.int .i64 0)) := by
  have S0 : Hid (∀ o', SR w0 (w.alloc o') b N m (some ⟨p, bl, i, h0, h1, h2, h3, h4, h5, h6, h7⟩) G) := fun o' => s.later ((Below.refl _ _).alloc (Nat.le_refl _) _)
  have HG0 : Hid (∀ o', ∀ k, G k → (w.alloc o').heap[k]? = w.heap[k]?) := fun o' => s.gk ((Below.refl _ _).alloc (Nat.le_refl _) _)
  have HX0 : Hid (∀ v u T (j : Nat), (w.alloc (.cells #[v, u] T)).cell? ⟨w.heap.size, j, none⟩ = (#[v, u] : Array Value)[j]?) := fun v u T j => cell_of_heap (heap_alloc_new w _) j
  have Hc := Lib.hid hc; clear hc
  have Hp' := Lib.hid hp'; clear hp'
  have hsg : sigB n = true := by simp [sigB, hn.1, hn.2]
  clear s
  go_enter Tryz.func15, Tryz.ntmps15
  go_wp2_with fail
  refine (sCheck_any b w.heap.size 2 2 (two from_ m) 0 _ (fun k hk => by
    rcases (by omega : k = 0 ∨ k = 1) with rfl | rfl
    · exact HX0.out _ _ _ 0
    · exact HX0.out _ _ _ 1) (fun k _ => by unfold two; split; exact hf.2; exact hm.2) (by omega) (.inr ⟨rfl, fun k _ => by unfold two; split; exact hf.1; exact hm.1⟩)).mono ?_
  rintro r w1 ⟨rfl, hb⟩
  have S1 := Lib.hid ((S0.out _).later hb)
  have HG1 : Hid (∀ k, G k → w1.heap[k]? = w.heap[k]?) := fun k hk => ((S0.out _).gk hb k hk).trans (HG0.out _ k hk)
  clear hb S0 HG0 HX0
  go_wp2_with fail
  refine (isSignal_is n _ hsg _).mono ?_
  rintro r w2 ⟨rfl, rfl⟩
  clear hsg
  go_wp2_with fail
  refine (isNear_is from_ m _ hnear _ hf.2 hm.2).mono ?_
  rintro r w2 ⟨rfl, hb⟩
  have S2 := Lib.hid (S1.out.later hb)
  have HG2 : Hid (∀ k, G k → w2.heap[k]? = w.heap[k]?) := fun k hk => (S1.out.gk hb k hk).trans (HG1.out k hk)
  clear hb S1 HG1
  go_wp2_with fail
  refine (srGet w0 w2 b N m _ G S2.out hm).mono ?_
  rintro r w3 ⟨rfl, s3, hk3⟩
  have HG3 : Hid (∀ k, G k → w3.heap[k]? = w.heap[k]?) := fun k hk => (hk3 k hk).trans (HG2.out k hk)
  have S3 : Hid (∀ o', SR w0 (w3.alloc o') b N m (some ⟨p, bl, i, h0, h1, h2, h3, h4, h5, h6, h7⟩) (fun k => G k ∨ k = w3.heap.size)) := fun o' => s3.fresh ((Below.refl _ _).alloc (Nat.le_refl _) _) (fun k hk => hk.imp id (fun h => by subst h; simp))
  have HG3' : Hid (∀ o', ∀ k, G k → (w3.alloc o').heap[k]? = w.heap[k]?) := fun o' k hk => (s3.gk ((Below.refl _ _).alloc (Nat.le_refl _) _) k hk).trans (HG3.out k hk)
  have HGX : Hid (∀ k, G k → k ≠ w3.heap.size) := fun k hk e => absurd (s3.glt k hk) (by omega)
  have HX3 : Hid (∀ o', (w3.alloc o').heap[w3.heap.size]? = some o') := fun o' => heap_alloc_new w3 o'
  clear s3 hk3 S2 HG2 HG3
  dsimp only [rHas, recV, rCells]
  go_wp2_with fail
  refine (withoutEffect_is p bl i h0 h1 h2 h3 h4 h5 h6 h7 n (by omega) _ hwo _).mono ?_
  rintro r w4 ⟨rfl, hb⟩
  have S4 := Lib.hid ((S3.out _).later hb)
  have HG4 : Hid (∀ k, G k → w4.heap[k]? = w.heap[k]?) := fun k hk => ((S3.out _).gk hb k (.inl hk)).trans (HG3'.out _ k hk)
  have hX4 : w4.heap[w3.heap.size]? = some (.cells (rCells ⟨p, bl, i, h0, h1, h2, h3, h4, h5, h6, h7⟩) 30 (0, 0)) := (hb.block _ (by simp)).trans (HX3.out _)
  clear hb S3 HG3' HX3
  obtain ⟨c0, c1, c2, c3, c4, c5, c6, c7, c8, c9, c10⟩ := at11 hX4
  dsimp only at c0 c1 c2 c3 c4 c5 c6 c7 c8 c9 c10
  have f0 : w4.frozen? ⟨w3.heap.size, 0, none⟩ = false := frozen_of_heap hX4 0
  have HX4 := Lib.hid hX4; clear hX4
  generalize w3.heap.size = X at *
  have Hor : Hid (bits BinOp.or IntKind.i64 p (wrap64 (2 ^ n.toNat)) = p') := Hp'.out
  go_wp2_with fail
  go_region
  rw [Hor.out]
  clear c0 c1 c2 c3 c4 c5 c6 c7 c8 c9 c10 f0
  have hw5 : ∃ w5, w5 = (w4.setCell ⟨X, 0, none⟩ (.int .i64 p')).drew := ⟨_, rfl⟩
  obtain ⟨w5, hw5⟩ := hw5
  have S5 : Hid (SR w0 w5 b N m (some ⟨p, bl, i, h0, h1, h2, h3, h4, h5, h6, h7⟩) G) := by rw [hw5]; exact (S4.out.setX X (.inr rfl) 0 _).fresh (Below.refl _ _) (fun k hk => .inl (.inl hk))
  have HG5 : Hid (∀ k, G k → w5.heap[k]? = w.heap[k]?) := by rw [hw5]; exact fun k hk => (setX_other (HGX.out k hk) 0 _).trans (HG4.out k hk)
  have hX5 : w5.heap[X]? = some (.cells (rCells ⟨p', bl, i, h0, h1, h2, h3, h4, h5, h6, h7⟩) 30 (0, 0)) := by rw [hw5]; exact setX_heap HX4.out p'
  rw [← hw5]
  clear hw5 S4 HG4 HX4
  obtain ⟨c0, c1, c2, c3, c4, c5, c6, c7, c8, c9, c10⟩ := at11 hX5
  dsimp only at c0 c1 c2 c3 c4 c5 c6 c7 c8 c9 c10
  clear hX5
  go_wp2_with fail
  refine (srPut w0 w5 b N m _ G S5.out hm hN p' bl i h0 h1 h2 h3 h4 h5 h6 h7 Hc.out).mono ?_
  rintro r w6 ⟨rfl, s6, hk6⟩
  have S6 := Lib.hid s6; clear s6
  have HG6 : Hid (∀ k, G k → w6.heap[k]? = w.heap[k]?) := fun k hk => (hk6 k hk).trans (HG5.out k hk)
  clear hk6 c0 c1 c2 c3 c4 c5 c6 c7 c8 c9 c10
  go_wp2
  go_ret
  exact ⟨rfl, S6.out, HG6.out⟩

end Go.Proofs.YtpieaakdddgdeaaGreatDoor
