/- Plain: what a number or a text was read from is its encoding. -/
import Derived.Test.YtfchfjipkggnkaaGreatDoorPlainN
namespace Go.Proofs.YtfchfjipkggnkaaGreatDoor
open Go.RowKit

theorem natVal_pos (r : List UInt8) (b : UInt8) (hb : b.toNat < 128) (h0 : b.toNat ≠ 0) : 0 < natVal (r ++ [b]) := by
  rw [natVal_append]
  have h1 : 0 < natVal [b] := by simp [natVal]; omega
  exact Nat.lt_of_lt_of_le (Nat.mul_pos (Nat.pow_pos (by decide)) h1) (Nat.le_add_left _ _)
theorem nat7_val (b : UInt8) (hb : b.toNat < 128) : ∀ (init : List UInt8) (f : Nat), init.length ≤ f → (∀ x ∈ init, 128 ≤ x.toNat) → (init ≠ [] → b.toNat ≠ 0) → nat7 (f + 1) (natVal (init ++ [b])) = init ++ [b] := by
  intro init
  induction init with
  | nil =>
    intro f _ _ _
    have h : natVal [b] = b.toNat := by simp [natVal]; omega
    simp only [List.nil_append, h, nat7, if_pos hb]
    simp
  | cons x r ih =>
    intro f hf hx h0
    obtain ⟨f', rfl⟩ : ∃ f', f = f' + 1 := ⟨f - 1, by simp at hf; omega⟩
    have h1 := hx x (by simp)
    have h2 := natVal_pos r b hb (h0 (by simp))
    have h3 := ih f' (by simp at hf; omega) (fun y hy => hx y (by simp [hy])) (fun _ => h0 (by simp))
    have hlt : x.toNat < 256 := x.toNat_lt
    have hv : natVal (x :: r ++ [b]) = x.toNat % 128 + 128 * natVal (r ++ [b]) := rfl
    rw [hv, nat7, if_neg (by omega)]
    have hd : (x.toNat % 128 + 128 * natVal (r ++ [b])) / 128 = natVal (r ++ [b]) := by omega
    have hm : 128 + (x.toNat % 128 + 128 * natVal (r ++ [b])) % 128 = x.toNat := by omega
    rw [hd, hm, h3]
    simp
theorem scan7_spec : ∀ (m : Nat) (bs : List UInt8), (∀ x ∈ bs.take (scan7 m bs), 128 ≤ x.toNat) ∧ (scan7 m bs < m → scan7 m bs < bs.length → (bs.getD (scan7 m bs) 0).toNat < 128) := by
  intro m
  induction m with
  | zero => intro bs; simp [scan7]
  | succ m ih =>
    intro bs
    cases bs with
    | nil => simp [scan7]
    | cons b r =>
      simp only [scan7]
      split
      · rename_i h
        obtain ⟨h1, h2⟩ := ih r
        refine ⟨?_, ?_⟩
        · intro x hx
          simp only [List.take_succ_cons, List.mem_cons] at hx
          rcases hx with rfl | hx
          · exact h
          · exact h1 x hx
        · intro h3 h4
          simp only [List.getD_cons_succ]
          exact h2 (by omega) (by simpa using h4)
      · rename_i h
        simp
        omega
theorem parse_canon (bs : List UInt8) (h : (parseNat 9 bs).2.2 = 0) : natBytes (parseNat 9 bs).1 ++ bs.drop (parseNat 9 bs).2.1 = bs := by
  obtain ⟨s1, s2⟩ := scan7_spec 9 bs
  obtain ⟨l1, l2⟩ := scan7_le 9 bs
  unfold parseNat at h ⊢
  dsimp only at h ⊢
  generalize scan7 9 bs = k at *
  by_cases h1 : k = 9
  · rw [if_pos h1] at h; cases h
  rw [if_neg h1] at h ⊢
  by_cases h2 : k = bs.length
  · rw [if_pos h2] at h; cases h
  rw [if_neg h2] at h ⊢
  by_cases h3 : 0 < k ∧ (bs.getD k 0).toNat = 0
  · rw [if_pos h3] at h; cases h
  rw [if_neg h3] at h ⊢
  by_cases h4 : k = 9 ∧ 1 < (bs.getD k 0).toNat
  · exact absurd h4.1 h1
  rw [if_neg h4] at h ⊢
  dsimp only
  have hk : k < bs.length := by omega
  have ht : bs.take (k + 1) = bs.take k ++ [bs.getD k 0] := by
    rw [List.take_add_one, List.getD_eq_getElem?_getD, List.getElem?_eq_getElem hk]
    simp
  have hn : natBytes (natVal (bs.take (k + 1))) = bs.take (k + 1) := by
    rw [ht]
    refine nat7_val _ (s2 (by omega) hk) (bs.take k) 9 (by simp; omega) s1 (fun hne => ?_)
    intro h0
    refine h3 ⟨?_, h0⟩
    rcases Nat.eq_zero_or_pos k with rfl | h
    · simp at hne
    · exact h
  rw [hn]
  exact List.take_append_drop _ _

theorem rdNum_canon (most : Int) (bs : List UInt8) (f : Nat) (h : (rdNum most ⟨bs, f⟩).2.fail = 0) : f = 0 ∧ bs = natBytes (rdNum most ⟨bs, f⟩).1 ++ (rdNum most ⟨bs, f⟩).2.rest := by
  unfold rdNum at h ⊢
  dsimp only at h ⊢
  by_cases h1 : f ≠ 0
  · rw [if_pos h1] at h; exact absurd h h1
  rw [if_neg h1] at h ⊢
  by_cases h2 : (numParse most bs).2.2 ≠ 0
  · rw [if_pos h2] at h; exact absurd h h2
  rw [if_neg h2]
  dsimp only
  refine ⟨by omega, ?_⟩
  unfold numParse at h2 ⊢
  by_cases h3 : (parseNat 9 bs).2.2 = 0 ∧ most < (parseNat 9 bs).1
  · rw [if_pos h3] at h2; simp at h2
  rw [if_neg h3] at h2 ⊢
  exact (parse_canon bs (by omega)).symm
theorem rdText_canon (most : Int) (bs : List UInt8) (f : Nat) (h : (rdText most ⟨bs, f⟩).2.fail = 0) : f = 0 ∧ bs = textB (strOf (rdText most ⟨bs, f⟩).1) ++ (rdText most ⟨bs, f⟩).2.rest := by
  unfold rdText at h ⊢
  dsimp only at h ⊢
  by_cases h1 : f ≠ 0
  · rw [if_pos h1] at h; exact absurd h h1
  rw [if_neg h1] at h ⊢
  by_cases h2 : (textParse most bs).2.2 ≠ 0
  · rw [if_pos h2] at h; exact absurd h h2
  rw [if_neg h2]
  dsimp only
  refine ⟨by omega, ?_⟩
  unfold textParse at h2 ⊢
  by_cases h3 : (parseNat 9 bs).2.2 ≠ 0
  · rw [if_pos h3] at h2; exact absurd h3 h2
  rw [if_neg h3] at h2 ⊢
  by_cases h4 : most < (parseNat 9 bs).1 ∨ 16777216 < (parseNat 9 bs).1
  · rw [if_pos h4] at h2; simp at h2
  rw [if_neg h4] at h2 ⊢
  by_cases h5 : bs.length < (parseNat 9 bs).2.1 + (parseNat 9 bs).1
  · rw [if_pos h5] at h2; simp at h2
  rw [if_neg h5]
  dsimp only
  have hc := parse_canon bs (by omega)
  generalize (parseNat 9 bs).1 = n at *
  generalize (parseNat 9 bs).2.1 = k at *
  have hlen : ((bs.drop k).take n).length = n := by simp; omega
  have hsz : (strOf ((bs.drop k).take n)).size = n := by rw [← size_toList]; exact hlen
  have htl : (strOf ((bs.drop k).take n)).data.toList = (bs.drop k).take n := by simp [strOf]
  unfold textB
  rw [hsz, htl, List.append_assoc, ← List.drop_drop, List.take_append_drop]
  exact hc.symm
theorem rdClose_ok (s : RdS) (h : rdClose s = 0) : s.fail = 0 ∧ s.rest = [] := by
  unfold rdClose at h
  by_cases h1 : s.fail ≠ 0
  · rw [if_pos h1] at h; exact absurd h h1
  rw [if_neg h1] at h
  by_cases h2 : 0 < s.rest.length
  · rw [if_pos h2] at h; simp at h
  exact ⟨by omega, List.length_eq_zero_iff.1 (by omega)⟩

end Go.Proofs.YtfchfjipkggnkaaGreatDoor
