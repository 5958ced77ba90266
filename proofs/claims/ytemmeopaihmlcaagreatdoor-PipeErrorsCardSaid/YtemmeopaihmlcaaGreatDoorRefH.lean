/- Plain: the reference's Decode of a pipe is the program's. -/
import Derived.Test.YtemmeopaihmlcaaGreatDoorCanon
import Derived.Test.YtemmeopaihmlcaaGreatDoorPipH
import Derived.Test.YtemmeopaihmlcaaGreatDoorRefG
namespace Go.Proofs.YtemmeopaihmlcaaGreatDoor
open Go.RowKit

theorem decP_canon (s : ByteArray) (h : rdClose (pr4 s.data.toList).2 = 0 ∧ checkP (decPP s.data.toList) = 0) : s = strOf (encPB (decPP s.data.toList)) := by
  obtain ⟨h1, h2⟩ := rdClose_ok _ h.1
  obtain ⟨f3, e4⟩ := rdText_canon 256 (pr3 s.data.toList).2.rest (pr3 s.data.toList).2.fail h1
  obtain ⟨f2, e3⟩ := rdNum_canon 64 (pr2 s.data.toList).2.rest (pr2 s.data.toList).2.fail f3
  obtain ⟨f1, e2⟩ := rdNum_canon 64 (pr1 s.data.toList).2.rest (pr1 s.data.toList).2.fail f2
  obtain ⟨-, e1⟩ := rdNum_canon 1073741824 s.data.toList 0 f1
  have e : s.data.toList = encPB (decPP s.data.toList) := by
    have e4' : (pr3 s.data.toList).2.rest = textB (strOf (pr4 s.data.toList).1) ++ (pr4 s.data.toList).2.rest := e4
    have e3' : (pr2 s.data.toList).2.rest = natBytes (pr3 s.data.toList).1 ++ (pr3 s.data.toList).2.rest := e3
    have e2' : (pr1 s.data.toList).2.rest = natBytes (pr2 s.data.toList).1 ++ (pr2 s.data.toList).2.rest := e2
    have e1' : s.data.toList = natBytes (pr1 s.data.toList).1 ++ (pr1 s.data.toList).2.rest := e1
    rw [h2] at e4'
    have : natBytes (pr1 s.data.toList).1 ++ (pr1 s.data.toList).2.rest = encPB (decPP s.data.toList) := by
      rw [e2', e3', e4']
      simp [encPB, decPP, textB]
    exact e1'.trans this
  rw [← e]
  exact (strOf_toList s).symm

theorem rTake_nat (n : Nat) (rest : List UInt8) (hn : n < 9223372036854775808) : rTake (strOf (natBytes n ++ rest)) = ((n : Int), strOf rest) := by
  have hl : (strOf (natBytes n ++ rest)).data.toList = natBytes n ++ rest := by simp [strOf]
  have hp := parse_nat n rest hn
  unfold rTake
  rw [hl, hp, if_pos rfl]
  have hsz : (strOf (natBytes n ++ rest)).size = (natBytes n ++ rest).length := by rw [← size_toList, hl]
  congr 1
  rw [hsz]
  unfold strOf
  apply ByteArray.ext
  apply Array.toList_inj.1
  simp [ByteArray.data_extract]

theorem rDec_enc (p : PipeT) (h : checkP p = 0) : rDec (strOf (encPB p)) = (p, 0) := by
  obtain ⟨h1, h2, h3, _, h5⟩ := checkP_ok h
  have he : encP p = (strOf (encPB p), 0) := if_pos h
  obtain ⟨ep, re, wr, by_⟩ := p
  dsimp only at *
  have e0 : encPB ⟨ep, re, wr, by_⟩ = natBytes ep.toNat ++ (natBytes re.toNat ++ (natBytes wr.toNat ++ (natBytes by_.size ++ by_.data.toList))) := by
    simp [encPB]
  have t1 : rTake (strOf (encPB ⟨ep, re, wr, by_⟩)) = (ep, strOf (natBytes re.toNat ++ (natBytes wr.toNat ++ (natBytes by_.size ++ by_.data.toList)))) := by
    rw [e0, rTake_nat _ _ (by omega), Int.toNat_of_nonneg h1.1]
  have t2 : rTake (strOf (natBytes re.toNat ++ (natBytes wr.toNat ++ (natBytes by_.size ++ by_.data.toList)))) = (re, strOf (natBytes wr.toNat ++ (natBytes by_.size ++ by_.data.toList))) := by
    rw [rTake_nat _ _ (by omega), Int.toNat_of_nonneg h2.1]
  have t3 : rTake (strOf (natBytes wr.toNat ++ (natBytes by_.size ++ by_.data.toList))) = (wr, strOf (natBytes by_.size ++ by_.data.toList)) := by
    rw [rTake_nat _ _ (by omega), Int.toNat_of_nonneg h3.1]
  have t4 : rTake (strOf (natBytes by_.size ++ by_.data.toList)) = ((by_.size : Int), by_) := by
    rw [rTake_nat _ _ (by omega), strOf_toList]
  have hg : rGuess (strOf (encPB ⟨ep, re, wr, by_⟩)) = ⟨ep, re, wr, by_⟩ := by unfold rGuess; rw [t1, t2, t3, t4]
  have hl : rLen (strOf (encPB ⟨ep, re, wr, by_⟩)) = (by_.size : Int) := by unfold rLen; rw [t1, t2, t3, t4]
  unfold rDec
  rw [hg, hl, if_neg (by dsimp only; omega), if_pos he]

theorem rDec_is (s : ByteArray) : rDec s = decP_ s := by
  by_cases h : rdClose (pr4 s.data.toList).2 = 0 ∧ checkP (decPP s.data.toList) = 0
  · have hs := decP_canon s h
    have hd : decP_ s = (decPP s.data.toList, 0) := if_pos h
    rw [hd]
    have hr := rDec_enc _ h.2
    rw [← hs] at hr
    exact hr
  · have hd : decP_ s = (zeroP, 3) := if_neg h
    unfold rDec
    by_cases h1 : rLen s < 0 ∨ rLen s ≠ (rGuess s).bytes.size
    · rw [if_pos h1, hd]
    rw [if_neg h1]
    by_cases h2 : encP (rGuess s) = (s, 0)
    · exfalso
      have hc : checkP (rGuess s) = 0 := by rw [← encP_err, h2]
      have hs : strOf (encPB (rGuess s)) = s := by
        have : encP (rGuess s) = (strOf (encPB (rGuess s)), 0) := if_pos hc
        rw [this] at h2
        exact (Prod.mk.inj h2).1
      have := pdec_enc _ hc
      rw [hs, hd] at this
      cases (Prod.mk.inj this).2
    · rw [if_neg h2, hd]

end Go.Proofs.YtemmeopaihmlcaaGreatDoor
