/- signal, plain: Decode is the inverse of Encode. -/
import Derived.Test.YtpieaakdddgdeaaGreatDoorSigC
import Derived.Test.YtpieaakdddgdeaaGreatDoorCanon
namespace Go.Proofs.YtpieaakdddgdeaaGreatDoor
open Go.RowKit

theorem numsB_drop (l : List Int) (k : Nat) (hk : k < l.length) : numsB (l.drop k) = natBytes (l.getD k 0).toNat ++ numsB (l.drop (k + 1)) := by
  rw [List.drop_eq_getElem_cons hk, List.getD_eq_getElem?_getD, List.getElem?_eq_getElem hk]
  simp only [numsB, List.flatMap_cons, Option.getD_some]
theorem getD_range {l : List Int} (h : ∀ k, k < l.length → addrB (l.getD k 0) = true) (k : Nat) (hk : k < l.length) : 0 ≤ l.getD k 0 ∧ l.getD k 0 ≤ 4095 := addrB_ok (h k hk)
theorem rdNum_list (l : List Int) (k : Nat) (hk : k < l.length) (h : ∀ k, k < l.length → addrB (l.getD k 0) = true) : rdNum 4095 ⟨numsB (l.drop k), 0⟩ = ((l.getD k 0).toNat, ⟨numsB (l.drop (k + 1)), 0⟩) := by
  have h1 := getD_range h k hk
  rw [numsB_drop l k hk]
  exact rdNum_nat 4095 _ _ (by omega) (by omega)
theorem srH_list (l : List Int) (h : ∀ k, k < l.length → addrB (l.getD k 0) = true) : ∀ k, k ≤ l.length → srH ⟨numsB l, 0⟩ k = ⟨numsB (l.drop k), 0⟩ := by
  intro k
  induction k with
  | zero => intro _; simp [srH]
  | succ k ih =>
    intro hk
    simp only [srH]
    rw [ih (by omega), rdNum_list l k (by omega) h]
theorem rdec_enc (r : RecT) (h : checkR r = 0) : decR (strOf (encRB r)) = (r, 0) := by
  obtain ⟨⟨h1, h2, h3, -⟩, h4, -, -⟩ := checkR_ok h
  have k1 := setB_ok h1
  have k2 := setB_ok h2
  have k3 := setB_ok h3
  have e0 : (strOf (encRB r)).data.toList = natBytes r.p.toNat ++ (natBytes r.b.toNat ++ (natBytes r.i.toNat ++ numsB r.hs)) := by
    simp [strOf, encRB, headR]
  have e1 : sr1 (strOf (encRB r)).data.toList = (r.p.toNat, ⟨natBytes r.b.toNat ++ (natBytes r.i.toNat ++ numsB r.hs), 0⟩) := by
    unfold sr1
    rw [e0]
    exact rdNum_nat 254 _ _ (by omega) (by omega)
  have e2 : sr2 (strOf (encRB r)).data.toList = (r.b.toNat, ⟨natBytes r.i.toNat ++ numsB r.hs, 0⟩) := by
    unfold sr2
    rw [e1]
    exact rdNum_nat 254 _ _ (by omega) (by omega)
  have e3 : sr3 (strOf (encRB r)).data.toList = (r.i.toNat, ⟨numsB r.hs, 0⟩) := by
    unfold sr3
    rw [e2]
    exact rdNum_nat 254 _ _ (by omega) (by omega)
  have e4 : ∀ k, k < 8 → srV (strOf (encRB r)).data.toList k = r.hs.getD k 0 := by
    intro k hk
    unfold srV
    rw [e3, srH_list r.hs h4 k (by rw [hs_length]; omega), rdNum_list r.hs k (by rw [hs_length]; omega) h4]
    have := addrB_ok (h4 k hk)
    dsimp only
    omega
  have e5 : rdClose (srH (sr3 (strOf (encRB r)).data.toList).2 8) = 0 := by
    rw [e3, srH_list r.hs h4 8 (by rw [hs_length]; omega)]
    rfl
  have e6 : recOf (strOf (encRB r)).data.toList = r := by
    have g0 := e4 0 (by omega)
    have g1 := e4 1 (by omega)
    have g2 := e4 2 (by omega)
    have g3 := e4 3 (by omega)
    have g4 := e4 4 (by omega)
    have g5 := e4 5 (by omega)
    have g6 := e4 6 (by omega)
    have g7 := e4 7 (by omega)
    unfold recOf recAt
    rw [e1, e2, e3, g0, g1, g2, g3, g4, g5, g6, g7]
    obtain ⟨p, b, i, h0, h1, h2, h3, h4, h5, h6, h7⟩ := r
    dsimp only at k1 k2 k3
    simp only [RecT.hs, RecT.mk.injEq]
    refine ⟨by omega, by omega, by omega, rfl, rfl, rfl, rfl, rfl, rfl, rfl, rfl⟩
  unfold decR
  rw [e5, e6, if_neg (by simp), if_neg (by rw [h]; simp)]

theorem numsB_append (a b : List Int) : numsB (a ++ b) = numsB a ++ numsB b := by simp [numsB]
theorem srH_canon (s : RdS) : ∀ k, (srH s k).fail = 0 → s.fail = 0 ∧ s.rest = numsB ((List.range k).map fun j => ((rdNum 4095 (srH s j)).1 : Int)) ++ (srH s k).rest := by
  intro k
  induction k with
  | zero => intro h; exact ⟨h, by simp [srH, numsB]⟩
  | succ k ih =>
    intro h
    obtain ⟨h1, e1⟩ := rdNum_canon 4095 (srH s k).rest (srH s k).fail h
    obtain ⟨h2, e2⟩ := ih h1
    refine ⟨h2, ?_⟩
    rw [List.range_succ, List.map_append, numsB_append, e2, List.append_assoc]
    congr 1
    conv => lhs; rw [e1]
    simp [numsB, srH]
theorem recOf_canon (bs : List UInt8) (h : rdClose (srH (sr3 bs).2 8) = 0) : encRB (recOf bs) = bs := by
  obtain ⟨h1, h2⟩ := rdClose_ok _ h
  obtain ⟨h3, e3⟩ := srH_canon (sr3 bs).2 8 h1
  obtain ⟨h4, e4⟩ := rdNum_canon 254 (sr2 bs).2.rest (sr2 bs).2.fail h3
  obtain ⟨h5, e5⟩ := rdNum_canon 254 (sr1 bs).2.rest (sr1 bs).2.fail h4
  obtain ⟨-, e6⟩ := rdNum_canon 254 bs 0 h5
  have x4 : (sr2 bs).2.rest = natBytes (sr3 bs).1 ++ (sr3 bs).2.rest := e4
  have x5 : (sr1 bs).2.rest = natBytes (sr2 bs).1 ++ (sr2 bs).2.rest := e5
  have x6 : bs = natBytes (sr1 bs).1 ++ (sr1 bs).2.rest := e6
  have hh : (recOf bs).hs = (List.range 8).map fun j => ((rdNum 4095 (srH (sr3 bs).2 j)).1 : Int) := rfl
  have hx : encRB (recOf bs) = natBytes (sr1 bs).1 ++ (natBytes (sr2 bs).1 ++ (natBytes (sr3 bs).1 ++ numsB (recOf bs).hs)) := by
    simp [encRB, headR, recOf, recAt]
  rw [hx, hh]
  conv => rhs; rw [x6, x5, x4, e3, h2, List.append_nil]
theorem decR_canon {s : ByteArray} {r : RecT} (h : decR s = (r, 0)) : checkR r = 0 ∧ encRB r = s.data.toList := by
  unfold decR at h
  by_cases h1 : rdClose (srH (sr3 s.data.toList).2 8) ≠ 0
  · rw [if_pos h1] at h
    exact absurd (Prod.mk.inj h).2 h1
  rw [if_neg h1] at h
  by_cases h2 : checkR (recOf s.data.toList) ≠ 0
  · rw [if_pos h2] at h
    exact absurd (Prod.mk.inj h).2 h2
  rw [if_neg h2] at h
  obtain ⟨rfl, -⟩ := Prod.mk.inj h
  exact ⟨by omega, recOf_canon _ (by omega)⟩

end Go.Proofs.YtpieaakdddgdeaaGreatDoor
