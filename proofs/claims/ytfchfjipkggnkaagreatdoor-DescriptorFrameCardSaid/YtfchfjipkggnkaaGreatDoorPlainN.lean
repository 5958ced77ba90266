/- Plain: numbers and texts, written and read; small facts on memory. -/
import Derived.Test.YtfchfjipkggnkaaGreatDoorCodecH
import Derived.Test.YtfchfjipkggnkaaGreatDoorLinB
import Derived.Lib.ConvBytes
namespace Go.Proofs.YtfchfjipkggnkaaGreatDoor
open Go.RowKit

def textB (s : ByteArray) : List UInt8 := natBytes s.size ++ s.data.toList
theorem textB_length (s : ByteArray) : (textB s).length ≤ s.size + 10 := by
  have := natBytes_length s.size
  simp only [textB, List.length_append, size_toList]
  omega
theorem natBytes_ne (n : Nat) : natBytes n ≠ [] := by
  unfold natBytes
  simp only [nat7]
  split <;> simp
theorem wr_box {w : World} : Wr w.heap.size w.heap.size (w.alloc (.cells #[.slice none 0 0, .int .i64 0] 185)) [] :=
  ⟨Nat.le_refl _, .slice none 0 0, heap_alloc_new w _, World.ownsRow_nil _ _ _ _, fun g hg => by cases hg⟩
theorem rdNum_le (most : Nat) (s : RdS) : (rdNum most s).1 ≤ most := by
  unfold rdNum
  split
  · exact Nat.zero_le _
  · split
    · exact Nat.zero_le _
    · rename_i h
      unfold numParse at h ⊢
      split
      · rename_i h2
        rw [if_pos h2] at h
        simp at h
      · rename_i h2
        rw [if_neg h2] at h
        have h3 : (parseNat 9 s.rest).2.2 = 0 := by simpa using h
        have h4 : ¬ ((most : Int) < (parseNat 9 s.rest).1) := fun e => h2 ⟨h3, e⟩
        dsimp only
        omega
theorem rdText_le (most : Nat) (s : RdS) : (strOf (rdText most s).1).size ≤ most := by
  have hsz : ∀ l : List UInt8, (strOf l).size = l.length := fun l => by rw [← size_toList]; rfl
  rw [hsz]
  unfold rdText
  split
  · simp
  · split
    · simp
    · unfold textParse
      split
      · simp
      · split
        · simp
        · split
          · simp
          · rename_i h1 h2 h3
            simp only [List.length_take]
            omega
theorem Rd.grown {S : Nat → Prop} {b : Nat} {w w' : World} {s : RdS} {row : Option Nat} (h : Rd S b w s) (hb : w.grownBy w' row) (hr : ∀ k, row = some k → ¬ S k) : Rd S b w' s := by
  obtain ⟨hBb, g, off, n, c, p, hh, hsl, hnc, hBg, hgb, hlen⟩ := h
  have hg : n = 0 ∨ g < w.heap.size := by
    rcases Nat.eq_zero_or_pos n with h0 | h0
    · exact .inl h0
    · exact .inr (World.block_lt_of_cell? w _ (hsl.2 0 h0))
  refine ⟨hBb, g, off, n, c, p, (hb.block b (lt_of_heap hh) (fun e => hr b e.symm hBb)).trans hh, ?_, hnc, hBg, hgb, hlen⟩
  rcases hg with rfl | hg
  · exact ⟨hsl.1, fun j hj => by omega⟩
  · exact hsl.kept (hb.block g hg (fun e => hr g e.symm hBg))
theorem Below.grownRow {B : Nat} {w w1 w2 : World} {row : Option Nat} (h : Below B w w1) (hg : w1.grownBy w2 row) (hB : B ≤ w.heap.size) (hr : ∀ k, row = some k → B ≤ k) : Below B w w2 :=
  ⟨hg.os.trans h.os, hg.tape.trans h.tape, hg.output.trans h.output, Nat.le_trans h.size hg.size, fun k hk => (hg.block k (Nat.lt_of_lt_of_le hk (Nat.le_trans hB h.size)) (fun e => by have := hr k e.symm; omega)).trans (h.block k hk)⟩
theorem bytesWorld_below (w : World) (e : TypeId) (s : ByteArray) : Below w.heap.size w (Lib.bytesWorld w e s) :=
  ⟨rfl, rfl, rfl, by rw [Lib.bytesWorld_size]; omega, fun k hk => Lib.bytesWorld_at_old w e s k hk⟩
theorem nat7_shape : ∀ (g f n : Nat), n < 128 ^ (g + 1) → g ≤ f → ∃ (init : List UInt8) (b : UInt8), nat7 (f + 1) n = init ++ [b] ∧ init.length ≤ g ∧ (∀ x ∈ init, 128 ≤ x.toNat) ∧ b.toNat < 128 ∧ (0 < n → b.toNat ≠ 0) ∧ natVal (init ++ [b]) = n ∧ (n = 0 → init = []) := by
  intro g
  induction g with
  | zero =>
    intro f n hn _
    have h : n < 128 := by simpa using hn
    refine ⟨[], n.toUInt8, by simp [nat7, h], by simp, by simp, by simp; omega, fun h0 => by simp; omega, by simp [natVal]; omega, fun _ => rfl⟩
  | succ g ih =>
    intro f n hn hf
    by_cases h : n < 128
    · refine ⟨[], n.toUInt8, by simp [nat7, h], by simp, by simp, by simp; omega, fun h0 => by simp; omega, by simp [natVal]; omega, fun _ => rfl⟩
    · obtain ⟨f', rfl⟩ : ∃ f', f = f' + 1 := ⟨f - 1, by omega⟩
      have hn' : n / 128 < 128 ^ (g + 1) := by
        rw [Nat.div_lt_iff_lt_mul (by decide)]
        rw [Nat.pow_succ] at hn
        exact hn
      obtain ⟨init, b, h1, h2, h3, h4, h5, h6, _⟩ := ih f' (n / 128) hn' (by omega)
      refine ⟨(128 + n % 128).toUInt8 :: init, b, ?_, by simp; omega, ?_, h4, fun _ => h5 (by omega), ?_, fun h0 => by omega⟩
      · rw [nat7, if_neg h, h1]; rfl
      · intro x hx
        rcases List.mem_cons.1 hx with rfl | hx
        · simp; omega
        · exact h3 x hx
      · simp only [List.cons_append, natVal, h6]
        have : ((128 + n % 128).toUInt8).toNat = 128 + n % 128 := by simp; omega
        rw [this]
        omega
theorem parse_nat (n : Nat) (rest : List UInt8) (hn : n < 9223372036854775808) : parseNat 9 (natBytes n ++ rest) = (n, (natBytes n).length, 0) := by
  obtain ⟨init, b, h1, h2, h3, h4, h5, h6, h7⟩ := nat7_shape 8 9 n (by omega) (by omega)
  have hb : natBytes n = init ++ [b] := h1
  have hget : ∀ j, j < init.length → 128 ≤ (((init ++ [b]) ++ rest).getD j 0).toNat := fun j hj => by
    rw [List.getD_eq_getElem?_getD, List.append_assoc, List.getElem?_append_left hj, List.getElem?_eq_getElem hj]
    exact h3 _ (List.getElem_mem hj)
  have hlast : ((init ++ [b]) ++ rest).getD init.length 0 = b := by
    rw [List.getD_eq_getElem?_getD, List.append_assoc, List.getElem?_append_right (Nat.le_refl _)]
    simp
  have hscan : scan7 9 ((init ++ [b]) ++ rest) = init.length := scan7_eq 9 init.length _ (by omega) (by simp) hget (.inr (.inr (by rw [hlast]; exact h4)))
  rw [hb]
  unfold parseNat
  simp only [hscan, hlast]
  rw [if_neg (by omega), if_neg (by simp), if_neg, if_neg (fun h => by omega)]
  · have : ((init ++ [b]) ++ rest).take (init.length + 1) = init ++ [b] := by
      have : init.length + 1 = (init ++ [b]).length := by simp
      rw [this]
      exact List.take_left
    rw [this, h6]
    simp
  · rintro ⟨h8, h9⟩
    have : n ≠ 0 := fun e => by rw [h7 e] at h8; simp at h8
    exact h5 (by omega) h9
theorem rdNum_nat (most : Int) (n : Nat) (rest : List UInt8) (hn : n < 9223372036854775808) (hm : (n : Int) ≤ most) : rdNum most ⟨natBytes n ++ rest, 0⟩ = (n, ⟨rest, 0⟩) := by
  have hp : numParse most (natBytes n ++ rest) = (n, (natBytes n).length, 0) := by
    unfold numParse
    rw [parse_nat n rest hn, if_neg]
    simp only
    omega
  unfold rdNum
  simp only [hp]
  simp
theorem rdText_text (most : Int) (s : ByteArray) (rest : List UInt8) (hs : (s.size : Int) ≤ most) (hm : most ≤ 16777216) : rdText most ⟨textB s ++ rest, 0⟩ = (s.data.toList, ⟨rest, 0⟩) := by
  have hsz := size_toList s
  have hp : textParse most (textB s ++ rest) = (s.data.toList, (natBytes s.size).length + s.size, 0) := by
    unfold textParse textB
    rw [List.append_assoc, parse_nat s.size _ (by omega)]
    simp only
    rw [if_neg (by simp), if_neg (by omega), if_neg (by simp)]
    rw [List.drop_left]
    have : s.size = s.data.toList.length := hsz.symm
    rw [show (s.data.toList ++ rest).take s.size = s.data.toList by rw [this]; exact List.take_left]
  unfold rdText
  simp only [hp]
  have hd : (textB s ++ rest).drop ((natBytes s.size).length + s.size) = rest := by
    have : (natBytes s.size).length + s.size = (textB s).length := by simp [textB]
    rw [this]
    exact List.drop_left
  simp [hd]
theorem strOf_toList (s : ByteArray) : strOf s.data.toList = s := by
  cases s
  simp [strOf]

end Go.Proofs.YtfchfjipkggnkaaGreatDoor
