/- Law 36, plain: what the reference's Decode of a terminal answers is what the program's answers. -/
import Derived.Test.YtfobmfenjdiimaaDoorCanon
import Derived.Test.YtfobmfenjdiimaaDoorPlainA
import Derived.Test.YtfobmfenjdiimaaDoorRefF
namespace Go.Proofs.YtfobmfenjdiimaaDoor
open Go.RowKit

theorem rTake_small (s : ByteArray) : (rTake s).2.size ≤ s.size ∧ -1 ≤ (rTake s).1 ∧ (rTake s).1 ≤ 9223372036854775807 := by
  unfold rTake
  have h := parse9_small s.data.toList
  split
  · refine ⟨by simp [ByteArray.size_extract], by dsimp only; omega, by dsimp only; omega⟩
  · exact ⟨Nat.zero_le _, by decide, by decide⟩
/-- The text at the beginning of a string, and the rest. -/
def rPiece (s : ByteArray) : ByteArray × ByteArray :=
  if (rTake s).1 < 0 ∨ ((rTake s).2.size : Int) < (rTake s).1 then (⟨#[]⟩, ⟨#[]⟩) else ((rTake s).2.extract 0 (rTake s).1.toNat, (rTake s).2.extract (rTake s).1.toNat (rTake s).2.size)
theorem rPiece_small (s : ByteArray) : (rPiece s).1.size ≤ s.size ∧ (rPiece s).2.size ≤ s.size := by
  have h := (rTake_small s).1
  unfold rPiece
  split
  · exact ⟨Nat.zero_le _, Nat.zero_le _⟩
  · constructor <;> (simp only [ByteArray.size_extract]; omega)
/-- The texts that follow each other. -/
def rPieces : Nat → ByteArray → List ByteArray × ByteArray
  | 0, s => ([], s)
  | k + 1, s => ((rPieces k s).1 ++ [(rPiece (rPieces k s).2).1], (rPiece (rPieces k s).2).2)
theorem rPieces_length (k : Nat) (s : ByteArray) : (rPieces k s).1.length = k := by
  induction k with
  | zero => rfl
  | succ k ih => simp [rPieces, ih]
theorem rPieces_small (k : Nat) (s : ByteArray) : (rPieces k s).2.size ≤ s.size ∧ ∀ x ∈ (rPieces k s).1, x.size ≤ s.size := by
  induction k with
  | zero => exact ⟨Nat.le_refl _, fun x hx => by simp [rPieces] at hx⟩
  | succ k ih =>
    have h := rPiece_small (rPieces k s).2
    refine ⟨Nat.le_trans h.2 ih.1, fun x hx => ?_⟩
    simp only [rPieces, List.mem_append, List.mem_singleton] at hx
    rcases hx with hx | rfl
    · exact ih.2 x hx
    · exact Nat.le_trans h.1 ih.1
def rt2 (s : ByteArray) := rPiece (rTake s).2
def rt3 (s : ByteArray) := rTake (rt2 s).2
def rt4 (s : ByteArray) := rPieces (rt3 s).1.toNat (rt3 s).2
def rt5 (s : ByteArray) := rPiece (rt4 s).2
/-- The terminal that the reference guesses. -/
def gT (s : ByteArray) : TermT := ⟨(rTake s).1, (rt2 s).1, (rt4 s).1, (rt5 s).1⟩
/-- What the reference's Decode answers. -/
def rDecT (s : ByteArray) : TermT × Nat :=
  if (rt3 s).1 < 0 ∨ 16 < (rt3 s).1 then (zeroT, 3)
  else if encT (gT s) = (s, 0) ∧ (rt5 s).2 = ⟨#[]⟩ then (gT s, 0) else (zeroT, 3)

theorem strOf_size (bs : List UInt8) : (strOf bs).size = bs.length := by rw [← size_toList]; simp [strOf]
theorem strOf_left (a b : List UInt8) : (strOf (a ++ b)).extract 0 a.length = strOf a := by
  unfold strOf
  apply ByteArray.ext
  apply Array.toList_inj.1
  simp [ByteArray.data_extract]
theorem strOf_right (a b : List UInt8) : (strOf (a ++ b)).extract a.length (strOf (a ++ b)).size = strOf b := by
  rw [strOf_size]
  unfold strOf
  apply ByteArray.ext
  apply Array.toList_inj.1
  simp [ByteArray.data_extract]
theorem rTake_nat (n : Nat) (rest : List UInt8) (hn : n < 9223372036854775808) : rTake (strOf (natBytes n ++ rest)) = ((n : Int), strOf rest) := by
  have hl : (strOf (natBytes n ++ rest)).data.toList = natBytes n ++ rest := by simp [strOf]
  have hp := parse_nat n rest hn
  unfold rTake
  rw [hl, hp, if_pos rfl]
  exact Prod.ext rfl (strOf_right _ _)
theorem rPiece_text (t : ByteArray) (rest : List UInt8) (ht : t.size < 9223372036854775808) : rPiece (strOf (textB t ++ rest)) = (t, strOf rest) := by
  have h : rTake (strOf (textB t ++ rest)) = ((t.size : Int), strOf (t.data.toList ++ rest)) := by
    have := rTake_nat t.size (t.data.toList ++ rest) ht
    rwa [← List.append_assoc] at this
  unfold rPiece
  rw [h]
  dsimp only
  rw [if_neg (by rw [strOf_size, List.length_append, size_toList]; omega), Int.toNat_natCast, ← size_toList t, strOf_left, strOf_right, strOf_toList]
theorem rPieces_lines (ls : List ByteArray) (rest : List UInt8) (hs : ∀ s ∈ ls, s.size ≤ 1024) (k : Nat) (hk : k ≤ ls.length) : rPieces k (strOf (linesB ls ++ rest)) = (ls.take k, strOf (linesB (ls.drop k) ++ rest)) := by
  induction k with
  | zero => simp [rPieces]
  | succ k ih =>
    have hk' : k < ls.length := by omega
    have hd : ls.drop k = ls[k] :: ls.drop (k + 1) := List.drop_eq_getElem_cons hk'
    have hl : linesB (ls.drop k) ++ rest = textB ls[k] ++ (linesB (ls.drop (k + 1)) ++ rest) := by
      rw [hd]
      simp only [linesB, List.flatMap_cons, List.append_assoc]
    have ht := rPiece_text ls[k] (linesB (ls.drop (k + 1)) ++ rest) (by have := hs _ (List.getElem_mem hk'); omega)
    simp only [rPieces, ih (by omega)]
    rw [hl]
    rw [ht, List.take_succ_eq_append_getElem hk']

theorem rDecT_enc (t : TermT) (h : checkT t = 0) (hse : t.session.size ≤ 65536) : rDecT (strOf (encB t)) = (t, 0) := by
  obtain ⟨h1, _, h3, h4, _, h6⟩ := checkT_ok h
  have he : encT t = (strOf (encB t), 0) := if_pos h
  obtain ⟨ep, se, ls, sc⟩ := t
  dsimp only at *
  have hlines : ∀ s ∈ ls, s.size ≤ 1024 := fun s hm => lineE_size (linesE_size h4 s hm)
  have e0 : encB ⟨ep, se, ls, sc⟩ = natBytes ep.toNat ++ (textB se ++ (natBytes ls.length ++ (linesB ls ++ (textB sc ++ [])))) := by
    simp [encB, headB]
  have e1 : rTake (strOf (encB ⟨ep, se, ls, sc⟩)) = (ep, strOf (textB se ++ (natBytes ls.length ++ (linesB ls ++ (textB sc ++ []))))) := by
    rw [e0, rTake_nat _ _ (by omega), Int.toNat_of_nonneg h1.1]
  have e2 : rt2 (strOf (encB ⟨ep, se, ls, sc⟩)) = (se, strOf (natBytes ls.length ++ (linesB ls ++ (textB sc ++ [])))) := by
    unfold rt2
    rw [e1]
    exact rPiece_text _ _ (by omega)
  have e3 : rt3 (strOf (encB ⟨ep, se, ls, sc⟩)) = ((ls.length : Int), strOf (linesB ls ++ (textB sc ++ []))) := by
    unfold rt3
    rw [e2]
    exact rTake_nat _ _ (by omega)
  have e4 : rt4 (strOf (encB ⟨ep, se, ls, sc⟩)) = (ls, strOf (textB sc ++ [])) := by
    unfold rt4
    rw [e3]
    dsimp only
    rw [Int.toNat_natCast, rPieces_lines ls _ hlines _ (Nat.le_refl _)]
    simp [linesB]
  have e5 : rt5 (strOf (encB ⟨ep, se, ls, sc⟩)) = (sc, strOf []) := by
    unfold rt5
    rw [e4]
    exact rPiece_text _ _ (by omega)
  have eg : gT (strOf (encB ⟨ep, se, ls, sc⟩)) = ⟨ep, se, ls, sc⟩ := by
    unfold gT
    rw [e1, e2, e4, e5]
  unfold rDecT
  rw [e3, e5, eg, if_neg (by dsimp only; omega), if_pos ⟨he, rfl⟩]

theorem rdTexts_canon (k : Nat) (s : RdS) (h : (rdTexts k s).2.fail = 0) : s.fail = 0 ∧ s.rest = linesB (rdTexts k s).1 ++ (rdTexts k s).2.rest := by
  induction k with
  | zero => exact ⟨h, by simp [rdTexts, linesB]⟩
  | succ k ih =>
    obtain ⟨h1, h2⟩ := rdText_canon 1024 (rdTexts k s).2.rest (rdTexts k s).2.fail h
    obtain ⟨h3, h4⟩ := ih h1
    refine ⟨h3, h4.trans ?_⟩
    have h2' : (rdTexts k s).2.rest = textB (strOf (rdText 1024 (rdTexts k s).2).1) ++ (rdText 1024 (rdTexts k s).2).2.rest := h2
    rw [h2']
    simp [rdTexts, linesB]
theorem rdText_can (most : Int) (s : RdS) (h : (rdText most s).2.fail = 0) : s.fail = 0 ∧ s.rest = textB (strOf (rdText most s).1) ++ (rdText most s).2.rest := by
  cases s
  exact rdText_canon _ _ _ h
theorem rdNum_can (most : Int) (s : RdS) (h : (rdNum most s).2.fail = 0) : s.fail = 0 ∧ s.rest = natBytes (rdNum most s).1 ++ (rdNum most s).2.rest := by
  cases s
  exact rdNum_canon _ _ _ h
theorem rd4_eq (bs : List UInt8) : rdTexts (rd3 bs).1 (rd3 bs).2 = rd4 bs := rfl
theorem decT_canon (s : ByteArray) (h : rdClose (rd5 s.data.toList).2 = 0 ∧ checkT (decP s.data.toList) = 0) : s = strOf (encB (decP s.data.toList)) := by
  obtain ⟨h1, h2⟩ := rdClose_ok _ h.1
  obtain ⟨f4, e5⟩ := rdText_can 2048 (rd4 s.data.toList).2 h1
  obtain ⟨f3, e4⟩ := rdTexts_canon (rd3 s.data.toList).1 (rd3 s.data.toList).2 (by rw [rd4_eq]; exact f4)
  rw [rd4_eq] at e4
  obtain ⟨f2, e3⟩ := rdNum_can 16 (rd2 s.data.toList).2 f3
  obtain ⟨f1, e2⟩ := rdText_can 65536 (rd1 s.data.toList).2 f2
  obtain ⟨-, e1⟩ := rdNum_canon 1073741824 s.data.toList 0 f1
  have e : s.data.toList = encB (decP s.data.toList) := by
    have e5' : (rd4 s.data.toList).2.rest = textB (strOf (rd5 s.data.toList).1) ++ (rd5 s.data.toList).2.rest := e5
    have e4' : (rd3 s.data.toList).2.rest = linesB (rd4 s.data.toList).1 ++ (rd4 s.data.toList).2.rest := e4
    have e3' : (rd2 s.data.toList).2.rest = natBytes (rd3 s.data.toList).1 ++ (rd3 s.data.toList).2.rest := e3
    have e2' : (rd1 s.data.toList).2.rest = textB (strOf (rd2 s.data.toList).1) ++ (rd2 s.data.toList).2.rest := e2
    have e1' : s.data.toList = natBytes (rd1 s.data.toList).1 ++ (rd1 s.data.toList).2.rest := e1
    have hl : (rd4 s.data.toList).1.length = (rd3 s.data.toList).1 := by rw [← rd4_eq]; exact rdTexts_length _ _
    rw [h2] at e5'
    have : natBytes (rd1 s.data.toList).1 ++ (rd1 s.data.toList).2.rest = encB (decP s.data.toList) := by
      rw [e2', e3', e4', e5']
      simp [encB, headB, decP, hl]
    exact e1'.trans this
  rw [← e]
  exact (strOf_toList s).symm
theorem encT_err (t : TermT) : (encT t).2 = checkT t := by
  unfold encT
  by_cases h : checkT t = 0
  · rw [if_pos h, h]
  · rw [if_neg h]
theorem rDecT_is (s : ByteArray) (hs : s.size ≤ 65536) : rDecT s = decT s := by
  by_cases h : rdClose (rd5 s.data.toList).2 = 0 ∧ checkT (decP s.data.toList) = 0
  · have hs2 := decT_canon s h
    have hd : decT s = (decP s.data.toList, 0) := if_pos h
    rw [hd]
    have hsz : (decP s.data.toList).session.size ≤ 65536 := by
      have h0 : s.size = (encB (decP s.data.toList)).length := by rw [← strOf_size, ← hs2]
      have h1 : (decP s.data.toList).session.size ≤ (encB (decP s.data.toList)).length := by
        simp only [encB, headB, textB, List.length_append, size_toList]
        omega
      omega
    have hr := rDecT_enc _ h.2 hsz
    rw [← hs2] at hr
    exact hr
  · have hd : decT s = (zeroT, 3) := if_neg h
    unfold rDecT
    by_cases h1 : (rt3 s).1 < 0 ∨ 16 < (rt3 s).1
    · rw [if_pos h1, hd]
    rw [if_neg h1]
    by_cases h2 : encT (gT s) = (s, 0) ∧ (rt5 s).2 = ⟨#[]⟩
    · exfalso
      have hc : checkT (gT s) = 0 := by rw [← encT_err, h2.1]
      have hs2 : strOf (encB (gT s)) = s := by
        have : encT (gT s) = (strOf (encB (gT s)), 0) := if_pos hc
        rw [this] at h2
        exact (Prod.mk.inj h2.1).1
      have hsz : (gT s).session.size ≤ 65536 := Nat.le_trans (Nat.le_trans (rPiece_small _).1 (rTake_small s).1) hs
      have := dec_enc _ hc hsz
      rw [hs2, hd] at this
      cases (Prod.mk.inj this).2
    · rw [if_neg h2, hd]
end Go.Proofs.YtfobmfenjdiimaaDoor
