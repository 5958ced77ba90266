/- Contracts of codec: Parse, the Reader. -/
import Derived.Test.YtmknhokjpmjkkaaDoorCodecD
namespace Go.Proofs.YtmknhokjpmjkkaaDoor
open Go.RowKit

theorem parse9_small (bs : List UInt8) : (parseNat 9 bs).1 < 9223372036854775808 ∧ (parseNat 9 bs).2.1 ≤ bs.length ∧ (parseNat 9 bs).2.1 ≤ 9 ∧ (parseNat 9 bs).2.2 ≤ 28 := by
  have hs := scan7_le 9 bs
  unfold parseNat
  simp only
  split
  · simp
  · split
    · simp
    · split
      · simp
      · split
        · simp
        · have h1 := natVal_lt (bs.take (scan7 9 bs + 1))
          have h2 : (bs.take (scan7 9 bs + 1)).length ≤ 9 := by simp; omega
          have h3 : (128 : Nat) ^ (bs.take (scan7 9 bs + 1)).length ≤ 128 ^ 9 := Nat.pow_le_pow_right (by decide) h2
          dsimp only
          refine ⟨by omega, by omega, by omega, by omega⟩

set_option maxRecDepth 100000 in
set_option maxHeartbeats 800000 in
theorem parse_any (g off n c : Nat) (bs : List UInt8) (w : World) (hlen : bs.length ≤ 70368744177664) (hb : BSl w g off n bs) :
    Calls Tryd.prog 132 #[.slice (some ⟨g, off, none⟩) n c] w fun r w' =>
      r = .returned (.tuple #[.int .i64 (parseNat 9 bs).1, .int .i64 (parseNat 9 bs).2.1, .int .i64 (parseNat 9 bs).2.2]) ∧ w = w' := by
  have Hs := Lib.hid (parse9_small bs)
  have Hb := Lib.hid hb; clear hb
  go_enter Tryd.func132, Tryd.ntmps132
  go_wp2_with fail
  refine (parseNatural_any g off n c 9 bs _ (by omega) hlen Hb.out).mono ?_
  rintro e w1 ⟨rfl, rfl⟩
  have h1 := Hs.out.1
  generalize hq : parseNat 9 bs = q at *
  have Hq := Lib.hid hq; clear hq
  obtain ⟨q1, q2, q3⟩ := q
  dsimp only at *
  go_wp2
  go_ret3
  rw [Hq.out]
  exact ⟨rfl, rfl⟩

/-- What Number's closure parses. -/
def numParse (most : Int) (bs : List UInt8) : Nat × Nat × Nat :=
  if (parseNat 9 bs).2.2 = 0 ∧ most < (parseNat 9 bs).1 then ((parseNat 9 bs).1, (parseNat 9 bs).2.1, 2) else parseNat 9 bs

set_option maxRecDepth 100000 in
set_option maxHeartbeats 800000 in
theorem number1_any (g off n c m : Nat) (most : Int) (bs : List UInt8) (w : World) (hlen : bs.length ≤ 70368744177664) (hb : BSl w g off n bs) (hm : w.cell? ⟨m, 0, none⟩ = some (.int .i64 most)) :
    Calls Tryd.prog 131 #[.slice (some ⟨g, off, none⟩) n c, .pointer (some ⟨m, 0, none⟩)] w fun r w' =>
      r = .returned (.tuple #[.int .i64 (numParse most bs).1, .int .i64 (numParse most bs).2.1, .int .i64 (numParse most bs).2.2]) ∧ w = w' := by
  have Hs := Lib.hid (parse9_small bs)
  have Hb := Lib.hid hb; clear hb
  go_enter Tryd.func131, Tryd.ntmps131
  go_wp2_with fail
  refine (parse_any g off n c bs _ hlen Hb.out).mono ?_
  rintro e w1 ⟨rfl, rfl⟩
  have h1 := Hs.out
  by_cases h : (parseNat 9 bs).2.2 = 0 ∧ most < (parseNat 9 bs).1
  · have hfin : Hid (numParse most bs = ((parseNat 9 bs).1, (parseNat 9 bs).2.1, 2)) := by show _ = _; unfold numParse; rw [if_pos h]
    generalize parseNat 9 bs = q at *
    obtain ⟨q1, q2, q3⟩ := q
    dsimp only at *
    obtain ⟨rfl, h2⟩ := h
    go_wp2
    go_ret3
    rw [hfin.out]
    exact ⟨rfl, rfl⟩
  · have hfin : Hid (numParse most bs = parseNat 9 bs) := by show _ = _; unfold numParse; rw [if_neg h]
    generalize parseNat 9 bs = q at *
    obtain ⟨q1, q2, q3⟩ := q
    dsimp only at *
    by_cases h0 : q3 = 0
    · subst h0
      have h3 : ¬ (most < (q1 : Int)) := by omega
      clear h
      go_wp2
      go_ret3
      rw [hfin.out]
      exact ⟨rfl, rfl⟩
    · have h3 : ((q3 : Int) == 0) = false := beq_eq_false_iff_ne.2 (by omega)
      clear h
      go_wp2
      go_ret3
      rw [hfin.out]
      exact ⟨rfl, rfl⟩

end Go.Proofs.YtmknhokjpmjkkaaDoor
