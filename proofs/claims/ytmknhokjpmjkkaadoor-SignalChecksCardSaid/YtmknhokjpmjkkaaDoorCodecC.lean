/- Contracts of codec: Bytes of the Writer; the Reader. Plain laws first. -/
import Derived.Test.YtmknhokjpmjkkaaDoorCodecB
namespace Go.Proofs.YtmknhokjpmjkkaaDoor
open Go.RowKit

/-! ### Plain: numbers in bytes -/
def scan7 : Nat → List UInt8 → Nat
  | 0, _ => 0
  | _ + 1, [] => 0
  | m + 1, b :: r => if 128 ≤ b.toNat then scan7 m r + 1 else 0
def natVal : List UInt8 → Nat
  | [] => 0
  | b :: r => b.toNat % 128 + 128 * natVal r
/-- parseNatural: the number, its size, the error. -/
def parseNat (most : Nat) (bs : List UInt8) : Nat × Nat × Nat :=
  let k := scan7 most bs
  if k = most then (0, 0, 3)
  else if k = bs.length then (0, 0, 28)
  else if 0 < k ∧ (bs.getD k 0).toNat = 0 then (0, 0, 3)
  else if k = 9 ∧ 1 < (bs.getD k 0).toNat then (0, 0, 3)
  else (natVal (bs.take (k + 1)), k + 1, 0)

theorem scan7_le (m : Nat) (bs : List UInt8) : scan7 m bs ≤ m ∧ scan7 m bs ≤ bs.length := by
  induction m generalizing bs with
  | zero => simp [scan7]
  | succ m ih =>
    cases bs with
    | nil => simp [scan7]
    | cons b r => simp only [scan7]; split <;> simp; have := ih r; omega

theorem scan7_eq (m k : Nat) (bs : List UInt8) (hk : k ≤ m) (hn : k ≤ bs.length) (hlo : ∀ j, j < k → 128 ≤ (bs.getD j 0).toNat) (hend : k = m ∨ k = bs.length ∨ (bs.getD k 0).toNat < 128) : scan7 m bs = k := by
  induction m generalizing bs k with
  | zero => simp [scan7]; omega
  | succ m ih =>
    cases bs with
    | nil => simp [scan7] at *; omega
    | cons b r =>
      simp only [scan7]
      cases k with
      | zero =>
        rw [if_neg]
        simp at hend
        omega
      | succ k =>
        rw [if_pos (by simpa using hlo 0 (by omega))]
        congr 1
        refine ih k r (by omega) (by simp at hn; omega) (fun j hj => by simpa using hlo (j + 1) (by omega)) ?_
        simpa using hend

theorem natVal_append (a b : List UInt8) : natVal (a ++ b) = natVal a + 128 ^ a.length * natVal b := by
  induction a with
  | nil => simp [natVal]
  | cons x r ih => simp only [List.cons_append, natVal, ih, List.length_cons, Nat.pow_succ]; rw [Nat.mul_add, Nat.add_assoc, ← Nat.mul_assoc, Nat.mul_comm 128 (128 ^ r.length)]

theorem natVal_lt (bs : List UInt8) : natVal bs < 128 ^ bs.length := by
  induction bs with
  | nil => simp [natVal]
  | cons b r ih => simp only [natVal, List.length_cons, Nat.pow_succ]; have := Nat.mod_lt b.toNat (show 0 < 128 by decide); omega

theorem natVal_drop_le (l : List UInt8) (m : Nat) : natVal (l.drop m) ≤ natVal l := by
  have h := natVal_append (l.take m) (l.drop m)
  rw [List.take_append_drop] at h
  rw [h]
  have : 1 ≤ 128 ^ (l.take m).length := Nat.pos_of_ne_zero (by simp)
  have := Nat.mul_le_mul_right (natVal (l.drop m)) this
  omega
theorem natVal_drop (l : List UInt8) (m : Nat) (h : m < l.length) : natVal (l.drop m) = (l.getD m 0).toNat % 128 + 128 * natVal (l.drop (m + 1)) := by
  rw [List.drop_eq_getElem_cons h]
  simp [natVal, h]
theorem natVal_small (bs : List UInt8) (k : Nat) (hk : k < bs.length) (h : k < 9 ∨ (k = 9 ∧ (bs.getD k 0).toNat ≤ 1)) : natVal (bs.take (k + 1)) < 18446744073709551616 := by
  rcases h with h | ⟨rfl, h⟩
  · have h1 := natVal_lt (bs.take (k + 1))
    have h2 : (bs.take (k + 1)).length ≤ 9 := by simp; omega
    have h3 : (128 : Nat) ^ (bs.take (k + 1)).length ≤ 128 ^ 9 := Nat.pow_le_pow_right (by decide) h2
    omega
  · rw [List.take_succ_eq_append_getElem hk, natVal_append]
    have h1 := natVal_lt (bs.take 9)
    have h2 : (bs.take 9).length = 9 := by simp; omega
    rw [h2] at h1 ⊢
    have h4 : bs[9].toNat ≤ 1 := by simpa [hk] using h
    have h5 : natVal [bs[9]] ≤ 1 := by simp [natVal]; omega
    have h6 := Nat.mul_le_mul_left (128 ^ 9) h5
    omega
theorem and_low : ∀ y : Fin 256, bits .and .u8 (y.val : Int) 127 = ((y.val % 128 : Nat) : Int) := by decide +kernel
theorem shift_or (U y : Nat) (hy : y < 256) (h : y % 128 + 128 * U < 18446744073709551616) :
    bits .or .u64 (IntKind.u64.wrap ((U : Int) * 128)) (IntKind.u64.wrap (bits .and .u8 (y : Int) 127)) = ((y % 128 + 128 * U : Nat) : Int) := by
  rw [and_low ⟨y, hy⟩, IntKind.wrap_u64, IntKind.wrap_u64]
  rw [show ((U : Int) * 128 % 18446744073709551616) = ((128 * U : Nat) : Int) by omega, show (((y % 128 : Nat) : Int) % 18446744073709551616) = ((y % 128 : Nat) : Int) by omega]
  rw [u64_or_nat _ _ (by omega) (by omega)]
  congr 1
  have h7 := Nat.two_pow_add_eq_or_of_lt (i := 7) (b := y % 128) (by omega) U
  have e : (2 : Nat) ^ 7 = 128 := rfl
  rw [e] at h7
  rw [← h7, Nat.add_comm]

theorem parseNat_err (most : Nat) (bs : List UInt8) (h : (parseNat most bs).2.2 ≠ 0) : (parseNat most bs).1 = 0 ∧ (parseNat most bs).2.1 = 0 := by
  unfold parseNat at *
  simp only at *
  split <;> simp_all
  split <;> simp_all
  split <;> simp_all
  split <;> simp_all

end Go.Proofs.YtmknhokjpmjkkaaDoor
